/- Plain law: the paths through the graph of an interval are the orders of its proposals; the law GraphOrders. -/
import Derived.Test.YtmhnmookgbmmbaaW36
set_option linter.unusedVariables false
set_option linter.unusedSimpArgs false
set_option maxRecDepth 8000
set_option maxHeartbeats 4000000
set_option pp.deepTerms false
set_option pp.deepTerms.threshold 6
namespace Go.Proofs
open Go.AM
/-! The counting of the law. -/
def ordS (s : Int × Int × Int) : Int × Int × Int := (s.1 * (s.2.1 + 1) / (s.2.2 + 1), s.2.1 + 1, s.2.2 + 1)
def ordQ (S : Config) (a : Int) (p : Proposal) : Bool := decide (p.admin = 201 + a) && !containsR S [p]
def ordStep (S : Config) (a : Int) (s : Int × Int × Int) (p : Proposal) : Int × Int × Int := if ordQ S a p then ordS s else s
def itO : Nat → Int × Int × Int → Int × Int × Int
  | 0, s => s
  | c + 1, s => ordS (itO c s)
theorem itO_in (c : Nat) (s : Int × Int × Int) : itO c (ordS s) = itO (c + 1) s := by
  induction c with
  | zero => rfl
  | succ c ih => rw [itO, ih]; rfl
theorem fold_itO (S : Config) (a : Int) : ∀ (l : List Proposal) (s : Int × Int × Int), l.foldl (ordStep S a) s = itO (l.countP (ordQ S a)) s
  | [], _ => rfl
  | p :: l, s => by
    rw [List.foldl_cons, fold_itO S a l, List.countP_cons, ordStep]
    split
    · rw [itO_in]
    · rfl
theorem count_ge (m s : Nat) : (List.range m).countP (fun n => decide (s ≤ n)) = m - s := by
  induction m with
  | zero => simp
  | succ m ih =>
    rw [List.range_succ, List.countP_append, ih, List.countP_singleton]
    by_cases h : s ≤ m
    · rw [if_pos (by simpa using h)]; omega
    · rw [if_neg (by simpa using h)]; omega
theorem count_cut {f : Nat → Nat → Proposal} (hf : Nice f) {s0 s1 s2 t0 t1 t2 a : Nat} (hs : s0 < 4 ∧ s1 < 4 ∧ s2 < 4) (ht : t0 < 4 ∧ t1 < 4 ∧ t2 < 4) (ha : a < 3) :
    (cut f t0 t1 t2).countP (ordQ (cut f s0 s1 s2) a) = sel t0 t1 t2 a - sel s0 s1 s2 a := by
  have hq : ∀ b n, b < 3 → n < 3 → ordQ (cut f s0 s1 s2) a (f b n) = decide (b = a ∧ sel s0 s1 s2 a ≤ n) := fun b n hb hn => by
    unfold ordQ
    rw [(hf b n).1, show containsR (cut f s0 s1 s2) [f b n] = hasR (cut f s0 s1 s2) (f b n) by simp [containsR], (has_cut hf hs hb hn).2]
    by_cases h : b = a
    · subst h
      rw [Bool.eq_iff_iff]; simp
    · rw [decide_eq_false (show ¬ ((201 : Int) + (b : Int) = 201 + (a : Int)) by omega), decide_eq_false (show ¬ (b = a ∧ sel s0 s1 s2 a ≤ n) from fun x => h x.1)]; rfl
  have hb : ∀ b m, b < 3 → m ≤ 3 → (blk f b m).countP (ordQ (cut f s0 s1 s2) a) = if b = a then m - sel s0 s1 s2 a else 0 := fun b m hb hm => by
    unfold blk
    rw [List.countP_map]
    by_cases h : b = a
    · rw [if_pos h, ← count_ge]
      refine List.countP_congr fun n hn => ?_
      have := List.mem_range.1 hn
      rw [Function.comp, hq b n hb zo]; simp [h]
    · rw [if_neg h, List.countP_eq_zero]
      intro n hn
      have := List.mem_range.1 hn
      rw [Function.comp, hq b n hb zo]; simp [h]
  show ((blk f 0 t0 ++ blk f 1 t1) ++ blk f 2 t2).countP (ordQ (cut f s0 s1 s2) a) = _
  rw [List.countP_append, List.countP_append, hb 0 t0 zd zo, hb 1 t1 zd zo, hb 2 t2 zd zo]
  have : a = 0 ∨ a = 1 ∨ a = 2 := by omega
  rcases this with rfl | rfl | rfl <;> simp [sel]
/-- What the law has counted when 'a' administrators have been looked at. -/
def ordA (S T : Config) : Nat → Int × Int
  | 0 => (1, 0)
  | a + 1 => ((T.foldl (ordStep S a) ((ordA S T a).1, (ordA S T a).2, 0)).1, (T.foldl (ordStep S a) ((ordA S T a).1, (ordA S T a).2, 0)).2.1)
def ordD (d0 d1 d2 : Nat) : Nat → Int × Int
  | 0 => (1, 0)
  | a + 1 => ((itO (sel d0 d1 d2 a) ((ordD d0 d1 d2 a).1, (ordD d0 d1 d2 a).2, 0)).1, (itO (sel d0 d1 d2 a) ((ordD d0 d1 d2 a).1, (ordD d0 d1 d2 a).2, 0)).2.1)
theorem sel_sub (t0 t1 t2 s0 s1 s2 a : Nat) : sel t0 t1 t2 a - sel s0 s1 s2 a = sel (t0 - s0) (t1 - s1) (t2 - s2) a := by
  unfold sel; split
  · rfl
  · split <;> rfl
theorem ordA_is {f : Nat → Nat → Proposal} (hf : Nice f) {s0 s1 s2 t0 t1 t2 : Nat} (hs : s0 < 4 ∧ s1 < 4 ∧ s2 < 4) (ht : t0 < 4 ∧ t1 < 4 ∧ t2 < 4) : ∀ a, a ≤ 3 → ordA (cut f s0 s1 s2) (cut f t0 t1 t2) a = ordD (t0 - s0) (t1 - s1) (t2 - s2) a
  | 0, _ => rfl
  | a + 1, h => by
    rw [ordA, ordD, ordA_is hf hs ht a zo, fold_itO, count_cut hf hs ht zo, sel_sub]
def OrdB (s : Int × Int × Int) : Prop := (0 ≤ s.1 ∧ s.1 ≤ 100000) ∧ (0 ≤ s.2.1 ∧ s.2.1 ≤ 9) ∧ 0 ≤ s.2.2 ∧ s.2.2 ≤ 3
instance (s : Int × Int × Int) : Decidable (OrdB s) := inferInstanceAs (Decidable (_ ∧ _))
theorem ord_fin : ∀ d0 d1 d2 : Fin 4, ∀ a : Fin 3, ∀ c : Fin 4, c.val ≤ sel d0 d1 d2 a → OrdB (itO c ((ordD d0 d1 d2 a).1, (ordD d0 d1 d2 a).2, 0)) := by decide +kernel
theorem ord_bd {f : Nat → Nat → Proposal} (hf : Nice f) {s0 s1 s2 t0 t1 t2 : Nat} (hs : s0 < 4 ∧ s1 < 4 ∧ s2 < 4) (ht : t0 < 4 ∧ t1 < 4 ∧ t2 < 4) (a i : Nat) (ha : a < 3) :
    OrdB (((cut f t0 t1 t2).take i).foldl (ordStep (cut f s0 s1 s2) a) ((ordA (cut f s0 s1 s2) (cut f t0 t1 t2) a).1, (ordA (cut f s0 s1 s2) (cut f t0 t1 t2) a).2, 0)) := by
  rw [fold_itO, ordA_is hf hs ht a zo]
  have h1 := count_cut hf hs ht ha
  have h2 : ((cut f t0 t1 t2).take i).countP (ordQ (cut f s0 s1 s2) a) ≤ (cut f t0 t1 t2).countP (ordQ (cut f s0 s1 s2) a) := List.Sublist.countP_le (List.take_sublist _ _)
  rw [h1, sel_sub] at h2
  generalize ((cut f t0 t1 t2).take i).countP (ordQ (cut f s0 s1 s2) a) = c at h2 ⊢
  have h3 : sel (t0 - s0) (t1 - s1) (t2 - s2) a < 4 := by unfold sel; split <;> (try split) <;> omega
  exact ord_fin ⟨t0 - s0, by omega⟩ ⟨t1 - s1, by omega⟩ ⟨t2 - s2, by omega⟩ ⟨a, ha⟩ ⟨c, by omega⟩ h2
/-! The number of paths. -/
def fac : Nat → Nat
  | 0 => 1
  | n + 1 => (n + 1) * fac n
def mulT (t u : Nat × Nat × Nat) : Nat := fac ((t.1 - u.1) + (t.2.1 - u.2.1) + (t.2.2 - u.2.2)) / (fac (t.1 - u.1) * fac (t.2.1 - u.2.1) * fac (t.2.2 - u.2.2))
def tri (i j k i' j' k' : Nat) : List (Nat × Nat × Nat) := (upto i i').flatMap fun a => (upto j j').flatMap fun b => (upto k k').map fun c => (a.toNat, b.toNat, c.toNat)
theorem allN_tri (f : Nat → Nat → Proposal) (i j k i' j' k' : Nat) : allN f i j k i' j' k' = (tri i j k i' j' k').map fun u => cut f u.1 u.2.1 u.2.2 := by
  unfold allN tri
  rw [List.map_flatMap]
  refine flatMap_ext fun a _ => ?_
  rw [List.map_flatMap]
  refine flatMap_ext fun b _ => ?_
  rw [List.map_map]; rfl
def adjT (u v : Nat × Nat × Nat) : Bool := decide (v.1 + v.2.1 + v.2.2 = u.1 + u.2.1 + u.2.2 + 1) && decide (u.1 ≤ v.1 ∧ u.2.1 ≤ v.2.1 ∧ u.2.2 ≤ v.2.2)
theorem tri_fin : ∀ i j k i' j' k' : Fin 4, i.val ≤ i'.val → j.val ≤ j'.val → k.val ≤ k'.val →
    ((tri i j k i' j' k').getD 0 (0, 0, 0) = (i.val, j.val, k.val) ∧ (tri i j k i' j' k').getD ((tri i j k i' j' k').length - 1) (0, 0, 0) = (i'.val, j'.val, k'.val) ∧ 0 < (tri i j k i' j' k').length) ∧
    (∀ u ∈ (tri i j k i' j' k').dropLast, u.1 + u.2.1 + u.2.2 < i'.val + j'.val + k'.val) ∧
    ∀ u ∈ tri i j k i' j' k', (u.1 < 4 ∧ u.2.1 < 4 ∧ u.2.2 < 4) ∧ mulT (i', j', k') u ≤ 2000 := by decide +kernel
theorem mul_fin : ∀ i j k i' j' k' : Fin 4, i.val ≤ i'.val → j.val ≤ j'.val → k.val ≤ k'.val →
    ∀ u ∈ (tri i j k i' j' k').dropLast, mulT (i'.val, j'.val, k'.val) u = (((tri i j k i' j' k').filter (adjT u)).map (mulT (i'.val, j'.val, k'.val))).sum := by decide +kernel
theorem ordD_fin : ∀ i j k i' j' k' : Fin 4, i.val ≤ i'.val → j.val ≤ j'.val → k.val ≤ k'.val → ordD (i'.val - i.val) (j'.val - j.val) (k'.val - k.val) 3 = (((mulT (i'.val, j'.val, k'.val) (i.val, j.val, k.val) : Nat) : Int), ((i'.val + j'.val + k'.val - (i.val + j.val + k.val) : Nat) : Int)) := by decide +kernel
theorem range_filter {α : Type} (l : List α) (d : α) (q : α → Bool) (h : α → Nat) : ((List.range l.length).filter fun j => q (l.getD j d)).map (fun j => h (l.getD j d)) = (l.filter q).map h := by
  have e : l = (List.range l.length).map fun j => l.getD j d := by
    apply List.ext_getElem
    · simp
    · intro n h1 h2
      simp [List.getD_eq_getElem?_getD, h1]
  conv => rhs; rw [e]
  rw [List.filter_map, List.map_map]; rfl
theorem tri_count {f : Nat → Nat → Proposal} (hf : Nice f) {i j k i' j' k' : Nat} (hle : i ≤ i' ∧ j ≤ j' ∧ k ≤ k') (h' : i' < 4 ∧ j' < 4 ∧ k' < 4) :
    CountL (allN f i j k i' j' k') (adjR (allN f i j k i' j' k')) ((allN f i j k i' j' k').length - 1) (fun x => mulT (i', j', k') ((tri i j k i' j' k').getD x (0, 0, 0))) := by
  have F := tri_fin ⟨i, by omega⟩ ⟨j, by omega⟩ ⟨k, by omega⟩ ⟨i', h'.1⟩ ⟨j', h'.2.1⟩ ⟨k', h'.2.2⟩ hle.1 hle.2.1 hle.2.2
  have M := mul_fin ⟨i, by omega⟩ ⟨j, by omega⟩ ⟨k, by omega⟩ ⟨i', h'.1⟩ ⟨j', h'.2.1⟩ ⟨k', h'.2.2⟩ hle.1 hle.2.1 hle.2.2
  dsimp only at F M
  obtain ⟨⟨F1, F2, F3⟩, F4, F5⟩ := F
  rw [allN_tri]
  generalize tri i j k i' j' k' = L at *
  have hlen : (L.map fun u => cut f u.1 u.2.1 u.2.2).length = L.length := List.length_map _
  have hg : ∀ x, x < L.length → (L.map fun u => cut f u.1 u.2.1 u.2.2).getD x default = cut f (L.getD x (0, 0, 0)).1 (L.getD x (0, 0, 0)).2.1 (L.getD x (0, 0, 0)).2.2 := fun x hx => by
    simp [List.getD_eq_getElem?_getD, hx]
  have hm : ∀ x, x < L.length → L.getD x (0, 0, 0) ∈ L := fun x hx => by
    rw [List.getD_eq_getElem?_getD, List.getElem?_eq_getElem hx]; exact List.getElem_mem hx
  have hd : ∀ x, x < L.length - 1 → L.getD x (0, 0, 0) ∈ L.dropLast := fun x hx => by
    have : (L.dropLast)[x]'(by simpa using hx) = L.getD x (0, 0, 0) := by
      rw [List.getElem_dropLast, List.getD_eq_getElem?_getD, List.getElem?_eq_getElem zo]; rfl
    rw [← this]; exact List.getElem_mem _
  have hlv : ∀ x, x < L.length → lev (L.map fun u => cut f u.1 u.2.1 u.2.2) x = (L.getD x (0, 0, 0)).1 + (L.getD x (0, 0, 0)).2.1 + (L.getD x (0, 0, 0)).2.2 := fun x hx => by
    unfold lev; rw [hg x hx, cut_len]
  rw [hlen]
  refine ⟨⟨?_, fun x hx hne => ?_, fun x h1 h2 => by omega⟩, fun x hx h1 hne => ?_, fun x hx => ?_⟩
  · try dsimp only
    rw [F2]
    simp [mulT, fac]
  · rw [hlen] at hx ⊢
    try dsimp only
    rw [M _ (hd x zo), ← range_filter L (0, 0, 0)]
    congr 1
    unfold succA
    congr 1
    refine List.filter_congr fun y hy => ?_
    have hy2 := List.mem_range.1 hy
    unfold adjR adjT
    rw [hg x hx, hg y hy2, cut_len, cut_len, (contains_cut hf (F5 _ (hm y hy2)).1 (F5 _ (hm x hx)).1).2]
    congr 1
    exact decide_eq_decide.2 zo
  · rw [hlen] at hx
    have h2 := F4 _ (hd x zo)
    rw [hlv x hx, hlv _ zo, F2] at h1
    dsimp only at h1; omega
  · rw [hlen] at hx
    exact Nat.le_trans (F5 _ (hm x hx)).2 zd
theorem path_list {ns : List Config} {A : Nat → Nat → Bool} (hA : Asc A ns.length) (hL : Lev ns A) {t : Nat} {β : Nat → Nat} (hβ : CountL ns A t β) (ht : t < ns.length) {a : Nat} (ha : a ≤ t) (h0 : 0 < β a) :
    ∃ l : List Nat, pathB (gA ns A) a t = l.map (fun j : Nat => (j : Int)) ∧ l.length = lev ns t - lev ns a + 1 ∧ lev ns a ≤ lev ns t ∧ ∀ x, x < l.length → l.getD x 0 < ns.length ∧ lev ns (l.getD x 0) = lev ns a + x := by
  unfold pathB
  rw [hasG_two, if_pos (by simp [gA]; omega)]
  have hR := reach_is hA hβ ht (t - a) a zo
  rw [show reachB (gA ns A) a t = (upto (a : Int) ((t : Int) - 1)).reverse.foldl (stepRe (gA ns A)) [((t : Int), true)] from rfl]
  generalize (upto (a : Int) ((t : Int) - 1)).reverse.foldl (stepRe (gA ns A)) [((t : Int), true)] = R at hR ⊢
  rw [hR a (Nat.le_refl _) zo, if_pos (by simpa using h0)]
  exact (path_go hA hL hβ ht hR (t - a) a ns.length (((t : Int) - a).toNat) [] zo (Nat.le_refl _) h0 zo zo).2
theorem orders_facts {f : Nat → Nat → Proposal} (hf : Nice f) (hli : Lite f) {s0 s1 s2 t0 t1 t2 : Nat} (hle : s0 ≤ t0 ∧ s1 ≤ t1 ∧ s2 ≤ t2) (ht : t0 < 4 ∧ t1 < 4 ∧ t2 < 4) :
    ∃ (G : Graph) (PL : List Int), AM.Fn Try.prog 14 [.sl false ((cut f s0 s1 s2).map prV), .sl false ((cut f t0 t1 t2).map prV)] (grV G) ∧
      AM.Fn Try.prog 30 [grV G, .i 0, .i ((G.nodes.length : Int) - 1)] (.sl false (PL.map .i)) ∧
      AM.Fn Try.prog 27 [grV G, .i 0, .i ((G.nodes.length : Int) - 1)] (.i (ordA (cut f s0 s1 s2) (cut f t0 t1 t2) 3).1) ∧
      (ordA (cut f s0 s1 s2) (cut f t0 t1 t2) 3).2 = ((cut f t0 t1 t2).length : Int) - (cut f s0 s1 s2).length ∧
      (PL.length : Int) = ((cut f t0 t1 t2).length : Int) - (cut f s0 s1 s2).length + 1 ∧ (1 ≤ G.nodes.length ∧ G.nodes.length ≤ 64) ∧
      ∀ x, x < PL.length → 0 ≤ PL.getD x default ∧ PL.getD x default < G.nodes.length ∧ ((G.nodes.getD (PL.getD x default).toNat default).length : Int) = (cut f s0 s1 s2).length + x := by
  have hs : s0 < 4 ∧ s1 < 4 ∧ s2 < 4 := by omega
  have iS : IsCut f (cut f s0 s1 s2) := ⟨_, _, _, hs, rfl⟩
  have iT : IsCut f (cut f t0 t1 t2) := ⟨_, _, _, ht, rfl⟩
  have hB := fn_Build hf hli iS iT
  have cA := all_cuts hf iS iT
  have uA := allR_up hf iS iT
  rw [allR_cut hf hs ht, if_pos hle] at hB cA uA
  have hC := tri_count hf hle ht
  have F := tri_fin ⟨s0, hs.1⟩ ⟨s1, hs.2.1⟩ ⟨s2, hs.2.2⟩ ⟨t0, ht.1⟩ ⟨t1, ht.2.1⟩ ⟨t2, ht.2.2⟩ hle.1 hle.2.1 hle.2.2
  have D := ordD_fin ⟨s0, hs.1⟩ ⟨s1, hs.2.1⟩ ⟨s2, hs.2.2⟩ ⟨t0, ht.1⟩ ⟨t1, ht.2.1⟩ ⟨t2, ht.2.2⟩ hle.1 hle.2.1 hle.2.2
  dsimp only at F D
  obtain ⟨⟨F1, F2, F3⟩, F4, F5⟩ := F
  have hm : (allN f s0 s1 s2 t0 t1 t2).length = (tri s0 s1 s2 t0 t1 t2).length := by rw [allN_tri, List.length_map]
  have hA := up_asc uA
  have hL := lev_adj (allN f s0 s1 s2 t0 t1 t2)
  have hpos : 0 < mulT (t0, t1, t2) ((tri s0 s1 s2 t0 t1 t2).getD 0 (0, 0, 0)) := by
    rw [F1]
    have : ∀ a b c : Fin 4, 0 < fac (a.val + b.val + c.val) / (fac a.val * fac b.val * fac c.val) := by decide +kernel
    exact this ⟨t0 - s0, by omega⟩ ⟨t1 - s1, by omega⟩ ⟨t2 - s2, by omega⟩
  obtain ⟨PL, p1, p2, p3, p4⟩ := path_list hA hL hC zo (Nat.zero_le _) hpos
  have q1 := paths_fwd hA hC zo (a := 0) zo
  have hl : ∀ x, x < (tri s0 s1 s2 t0 t1 t2).length → lev (allN f s0 s1 s2 t0 t1 t2) x = ((tri s0 s1 s2 t0 t1 t2).getD x (0, 0, 0)).1 + ((tri s0 s1 s2 t0 t1 t2).getD x (0, 0, 0)).2.1 + ((tri s0 s1 s2 t0 t1 t2).getD x (0, 0, 0)).2.2 := fun x hx => by
    unfold lev; rw [allN_tri]
    have : ((tri s0 s1 s2 t0 t1 t2).map fun u => cut f u.1 u.2.1 u.2.2).getD x default = cut f ((tri s0 s1 s2 t0 t1 t2).getD x (0, 0, 0)).1 ((tri s0 s1 s2 t0 t1 t2).getD x (0, 0, 0)).2.1 ((tri s0 s1 s2 t0 t1 t2).getD x (0, 0, 0)).2.2 := by
      simp [List.getD_eq_getElem?_getD, hx]
    rw [this, cut_len]
  have l0 := hl 0 F3
  have l1 := hl ((tri s0 s1 s2 t0 t1 t2).length - 1) zo
  rw [F1] at l0
  rw [F2] at l1
  dsimp only at l0 l1
  rw [← hm] at l1
  have hO := ordA_is hf hs ht 3 (Nat.le_refl _)
  rw [D] at hO
  have eL := edgesR_len cA
  refine ⟨⟨allN f s0 s1 s2 t0 t1 t2, edgesR (allN f s0 s1 s2 t0 t1 t2)⟩, PL.map fun j : Nat => (j : Int), hB, ?_, ?_, ?_, ?_, ⟨by dsimp only; omega, cA.2⟩, fun x hx => ?_⟩
  · have h := graph_Path ⟨allN f s0 s1 s2 t0 t1 t2, edgesR (allN f s0 s1 s2 t0 t1 t2)⟩ 0 (((allN f s0 s1 s2 t0 t1 t2).length - 1 : Nat) : Int) (Nat.le_trans eL zd) (Nat.le_trans cA.2 zd)
    rw [show pathB ⟨allN f s0 s1 s2 t0 t1 t2, edgesR (allN f s0 s1 s2 t0 t1 t2)⟩ 0 (((allN f s0 s1 s2 t0 t1 t2).length - 1 : Nat) : Int) = _ from p1] at h
    rw [show ((((allN f s0 s1 s2 t0 t1 t2).length - 1 : Nat)) : Int) = ((allN f s0 s1 s2 t0 t1 t2).length : Int) - 1 by omega] at h
    exact h
  · have h := graph_Paths ⟨allN f s0 s1 s2 t0 t1 t2, edgesR (allN f s0 s1 s2 t0 t1 t2)⟩ 0 (((allN f s0 s1 s2 t0 t1 t2).length - 1 : Nat) : Int) (Nat.le_trans eL zd) (Nat.le_trans cA.2 zd)
    rw [show pathsB ⟨allN f s0 s1 s2 t0 t1 t2, edgesR (allN f s0 s1 s2 t0 t1 t2)⟩ 0 (((allN f s0 s1 s2 t0 t1 t2).length - 1 : Nat) : Int) = _ from q1] at h
    rw [show ((((allN f s0 s1 s2 t0 t1 t2).length - 1 : Nat)) : Int) = ((allN f s0 s1 s2 t0 t1 t2).length : Int) - 1 by omega] at h
    try dsimp only at h
    rw [F1] at h
    rw [hO]
    exact h
  · rw [hO, cut_len, cut_len]
    dsimp only; omega
  · rw [List.length_map, p2, cut_len, cut_len, l0, l1]; omega
  · rw [List.length_map] at hx
    obtain ⟨h1, h2⟩ := p4 x hx
    have hgd : (PL.map fun j : Nat => (j : Int)).getD x default = ((PL.getD x 0 : Nat) : Int) := by
      simp [List.getD_eq_getElem?_getD, hx]
    rw [hgd, Int.toNat_natCast]
    unfold lev at h2 l0
    rw [cut_len]
    try dsimp only
    exact ⟨by omega, by omega, by omega⟩
theorem law_GraphOrders (f : Bool) (l : List Int) (x y : Int) (hl : l.length ≤ 4611686018427387904) : AM.Fn Try.prog 8 [.sl f (l.map .i), .i x, .i y] (.b true) := by
  have hf := pool_nice l
  have hli : Lite (poolF l) := pool_lite l
  have hP := kit_Pool f l hl
  obtain ⟨p0, p1, p2, hp, ep⟩ := pool_cut l
  rw [ep] at hP
  generalize poolF l = g at hf hli hP
  have iP : IsCut g (cut g p0 p1 p2) := ⟨_, _, _, hp, rfl⟩
  obtain ⟨t0, t1, t2, ht, et⟩ := part_le hf p0 p1 p2 y
  obtain ⟨s0, s1, s2, hs, es⟩ := part_le hf t0 t1 t2 x
  have hT := fn_Part hli iP y
  rw [et] at hT
  have iT : IsCut g (cut g t0 t1 t2) := ⟨_, _, _, by omega, rfl⟩
  have hS := fn_Part hli iT x
  rw [es] at hS
  have hOB := fun a i h => ord_bd hf (s0 := s0) (s1 := s1) (s2 := s2) (t0 := t0) (t1 := t1) (t2 := t2) zo zo a i h
  obtain ⟨G, PL, hB, hPh, hPs, hat, hpl, hgn, hpx⟩ := orders_facts hf hli hs zo
  have nT : (cut g t0 t1 t2).length ≤ 9 := by rw [cut_len]; omega
  have nS : (cut g s0 s1 s2).length ≤ 9 := by rw [cut_len]; omega
  have hK := fun p => ref_Contains false true (cut g s0 s1 s2) [p]
  generalize cut g p0 p1 p2 = P at *
  generalize cut g t0 t1 t2 = T at *
  generalize cut g s0 s1 s2 = S at *
  have hgx : ∀ x, x < PL.length → (G.nodes.getD (PL.getD x default).toNat default).length ≤ 100 := fun x hx => by
    have := (hpx x hx).2.2; omega
  (refine spec_of_runs Try.func8 rfl ?_; simp only [Try.f8]; refine ys ?_)
  repeat' (first | refine yw ?_ | refine Runs.region (id := 0) ?_ | refine Runs.region (id := 1) ?_ | refine Runs.region (id := 2) ?_ | refine Runs.region (id := 3) ?_ | refine Runs.region (id := 4) ?_ | refine Runs.region (id := 5) ?_ | refine Runs.region (id := 6) ?_ | refine Runs.region (id := 7) ?_ | refine yr ?_ | (refine r_fn rfl (hP) HbF.h zL1 zD ?_; refine r_nn zN zH ?_) | (refine r_fn rfl (hT) HbF.h zL2 zD ?_; refine r_nn zN zH ?_) | (refine r_fn rfl (hS) HbF.h zL2 zD ?_; refine r_nn zN zH ?_) | (refine r_fn rfl (hB) HbF.h zL2 zD ?_; refine r_nn zN zH ?_) | (refine Runs.cond rfl (zc ?_) (zc ?_) <;> intro hc <;> (try (first | contradiction | (exfalso; omega; done) | (have : hc = trivial := rfl; clear this; clear hc)))))
  refine Runs.loopI (fun a : Nat => 3 - a) (fun a => a ≤ 3)
    (fun a => ⟨[.any, .any, .any, .any, .any, .any, .any, .any, .sl false (T.map prV), .sl false (S.map prV), .ptr 10 0 0, .i ((T.length : Int) - S.length), .i (ordA S T a).1, .i (ordA S T a).2, .i (a : Nat), .any, .any, .any, .any, .any, .any, .any, .any, .any, .any, .any, .any, .any, .any, .any, .any, .any, .any, .any, .any, .any, .any, .any, .any, .any, .any, .any, .any, .any, .any, .any, .any, .any, .any, .any, .any, .any, .any, .any, .any, .any, .any, .any, .any, .any, .any, .any, .any, .any, .any, .any, .any, .any, .any, .any, .any, .any, .any, .any, .any, .any, .any, .any, .any, .any, .any, .any, .any, .any, .any, .any, .any, .any, .any, .any, .any, .any, .any, .any, .any, .any, .any, .any, .any, .any, .any, .any, .any, .any, .any, .any, .any, .any, .any, .any, .any, .any, .any, .any, .any, .any, .any, .any, .any, .any, .any, .any, .any, .any, .any, .any, .any, .any, .any, .any, .any, .any, .any, .any, .any, .any], [(10, .var 31 (grV G))]⟩) 0 (by simp) ?_ ?_
  · (refine St.Le.clean zR zU zV)
  rintro a h0 ih
  by_cases ha : a < 3
  · have hOb := fun i => hOB a i ha
    have hA1 : ordA S T (a + 1) = ((T.foldl (ordStep S a) ((ordA S T a).1, (ordA S T a).2, 0)).1, (T.foldl (ordStep S a) ((ordA S T a).1, (ordA S T a).2, 0)).2.1) := rfl
    generalize hst0 : ((ordA S T a).1, (ordA S T a).2, (0 : Int)) = st0 at hOb hA1
    have e1 : (ordA S T a).1 = st0.1 := by rw [← hst0]
    have e2 : (ordA S T a).2 = st0.2.1 := by rw [← hst0]
    have e3 : (0 : Int) = st0.2.2 := by rw [← hst0]
    repeat' (first | refine yw ?_ | refine Runs.region (id := 8) ?_ | refine Runs.region (id := 10) ?_ | refine Runs.region (id := 11) ?_ | refine Runs.region (id := 9) ?_ | refine yr ?_ | (refine Runs.cond rfl (zc ?_) (zc ?_) <;> intro hc <;> (try (first | contradiction | (exfalso; omega; done) | (have : hc = trivial := rfl; clear this; clear hc)))))
    refine Runs.loopI (fun i : Nat => T.length - i) (fun i => i ≤ T.length)
      (fun i => ⟨[.any, .any, .any, .any, .any, .any, .any, .any, .sl false (T.map prV), .sl false (S.map prV), .ptr 10 0 0, .i ((T.length : Int) - S.length), .i ((T.take i).foldl (ordStep S a) st0).1, .i ((T.take i).foldl (ordStep S a) st0).2.1, .i (a : Nat), .i ((T.take i).foldl (ordStep S a) st0).2.2, .i (i : Nat), .any, .any, .any, .any, .any, .any, .any, .any, .any, .any, .any, .any, .any, .any, .any, .any, .any, .any, .any, .any, .any, .any, .any, .any, .any, .any, .any, .any, .any, .any, .any, .any, .any, .any, .any, .any, .any, .any, .any, .any, .any, .any, .any, .any, .any, .any, .any, .any, .any, .any, .any, .any, .any, .any, .any, .any, .any, .any, .any, .any, .any, .any, .any, .any, .any, .any, .any, .any, .any, .any, .any, .any, .any, .any, .any, .any, .any, .any, .any, .any, .any, .any, .any, .any, .any, .any, .any, .any, .any, .any, .any, .any, .any, .any, .any, .any, .any, .any, .any, .any, .any, .any, .any, .any, .any, .any, .any, .any, .any, .any, .any, .any, .any, .any, .any, .any, .any, .any, .any], [(10, .var 31 (grV G))]⟩) 0 (by simp) ?_ ?_
    · rw [e1, e2, List.take_zero, List.foldl_nil, ← e3]
      (refine St.Le.clean zR zU zV)
    rintro i hi ihi
    have hb := hOb i
    unfold OrdB at hb
    have hst := fun (h : i < T.length) => foldl_take (g := ordStep S a) (s := st0) h
    have hend : T.length ≤ i → (T.take i).foldl (ordStep S a) st0 = T.foldl (ordStep S a) st0 := fun h => by rw [List.take_of_length_le h]
    generalize (T.take i).foldl (ordStep S a) st0 = st at hb hst hend ⊢
    have hmul : 0 ≤ st.1 * (st.2.1 + 1) ∧ st.1 * (st.2.1 + 1) ≤ 1000000 := by
      refine ⟨Int.mul_nonneg hb.1.1 zo, ?_⟩
      have := Int.mul_le_mul hb.1.2 (show st.2.1 + 1 ≤ 10 by omega) zo zo
      omega
    by_cases hlt : i < T.length
    · have hst2 := hst hlt
      have hq : ordQ S a (T.getD i default) = (decide ((T.getD i default).admin = 201 + a) && !containsR S [T.getD i default]) := rfl
      rw [ordStep, hq] at hst2
      repeat' (first | refine yw ?_ | refine Runs.region (id := 12) ?_ | refine Runs.region (id := 14) ?_ | refine Runs.region (id := 15) ?_ | refine Runs.region (id := 16) ?_ | refine Runs.region (id := 17) ?_ | refine Runs.region (id := 13) ?_ | refine yr ?_ | (refine r_fn rfl (hK _) HbF.h zL2 zD ?_; refine r_nn zN zH ?_) | ((first | refine r_guardPt rfl rfl ?_ ?_ | refine r_guardNt rfl rfl ?_ ?_ | refine r_guard rfl rfl ?_ ?_) <;> intro hG <;> (try (exfalso; omega; done)) <;> refine r_nn zN zH ?_) | (refine Runs.cond rfl (zc ?_) (zc ?_) <;> intro hc <;> (try (first | contradiction | (exfalso; omega; done) | (have : hc = trivial := rfl; clear this; clear hc)))))
      all_goals (try repeat' (first | refine yw ?_ | refine Runs.region (id := 13) ?_ | refine yr ?_ | (refine Runs.cond rfl (zc ?_) (zc ?_) <;> intro hc <;> (try (first | contradiction | (exfalso; omega; done) | (have : hc = trivial := rfl; clear this; clear hc))))))
      all_goals (refine ihi (i + 1) _ zo zo ?_)
      all_goals (rw [hst2])
      · rw [decide_eq_true hG, hc, Bool.not_false, Bool.and_self, if_pos rfl, ordS]
        (refine St.Le.clean zR zU zV)
      · rw [decide_eq_true hG, hc, Bool.not_true, Bool.and_false, if_neg Bool.false_ne_true]
        (refine St.Le.clean zR zU zV)
      · rw [decide_eq_false hG, Bool.false_and, if_neg Bool.false_ne_true]
        (refine St.Le.clean zR zU zV)
    · repeat' (first | refine yw ?_ | refine Runs.region (id := 12) ?_ | refine yr ?_ | (refine Runs.cond rfl (zc ?_) (zc ?_) <;> intro hc <;> (try (first | contradiction | (exfalso; omega; done) | (have : hc = trivial := rfl; clear this; clear hc)))))
      repeat' (first | refine yw ?_ | refine Runs.region (id := 9) ?_ | refine yr ?_ | (refine Runs.cond rfl (zc ?_) (zc ?_) <;> intro hc <;> (try (first | contradiction | (exfalso; omega; done) | (have : hc = trivial := rfl; clear this; clear hc)))))
      refine ih (a + 1) _ zo zo ?_
      rw [hA1, ← hend zo]
      (refine St.Le.clean zR zU zV)
  · obtain rfl : a = 3 := by omega
    generalize ordA S T 3 = oa at *
    rw [hat]
    repeat' (first | refine yw ?_ | refine Runs.region (id := 8) ?_ | refine yr ?_ | (refine Runs.cond rfl (zc ?_) (zc ?_) <;> intro hc <;> (try (first | contradiction | (exfalso; omega; done) | (have : hc = trivial := rfl; clear this; clear hc)))))
    repeat' (first | refine yw ?_ | refine Runs.region (id := 18) ?_ | refine Runs.region (id := 19) ?_ | refine Runs.region (id := 20) ?_ | refine Runs.region (id := 21) ?_ | refine yr ?_ | (refine r_fn rfl (hPh) HbF.h zL3 zD ?_; refine r_nn zN zH ?_) | (refine r_fn rfl (hPs) HbF.h zL3 zD ?_; refine r_nn zN zH ?_) | ((first | refine r_guardPf rfl rfl ?_ ?_ | refine r_guardNf rfl rfl ?_ ?_ | refine r_guard rfl rfl ?_ ?_) <;> intro hG <;> (try (exfalso; omega; done)) <;> refine r_nn zN zH ?_) | (refine Runs.cond rfl (zc ?_) (zc ?_) <;> intro hc <;> (try (first | contradiction | (exfalso; omega; done) | (have : hc = trivial := rfl; clear this; clear hc)))))
    refine Runs.loopI (fun i : Nat => PL.length - i) (fun i => i ≤ PL.length)
      (fun i => ⟨[.any, .any, .any, .any, .any, .any, .any, .any, .any, .sl false (S.map prV), .ptr 10 0 0, .any, .any, .any, .any, .any, .any, .sl false (PL.map .i), .i (i : Nat), .any, .any, .any, .any, .any, .any, .any, .any, .any, .any, .any, .any, .any, .any, .any, .any, .any, .any, .any, .any, .any, .any, .any, .any, .any, .any, .any, .any, .any, .any, .any, .any, .any, .any, .any, .any, .any, .any, .any, .any, .any, .any, .any, .any, .any, .any, .any, .any, .any, .any, .any, .any, .any, .any, .any, .any, .any, .any, .any, .any, .any, .any, .any, .any, .any, .any, .any, .any, .any, .any, .any, .any, .any, .any, .any, .any, .any, .any, .any, .any, .any, .any, .any, .any, .any, .any, .any, .any, .any, .any, .any, .any, .any, .any, .any, .any, .any, .any, .any, .any, .any, .any, .any, .any, .any, .any, .any, .any, .any, .any, .any, .any, .any, .any, .any, .any, .any], [(10, .var 31 (grV G))]⟩) 0 (by simp) ?_ ?_
    · (refine St.Le.clean zR zU zV)
    rintro i hi ihi
    by_cases hlt : i < PL.length
    · have hx := hpx i hlt
      have hx2 := hgx i hlt
      repeat' (first | refine yw ?_ | refine Runs.region (id := 22) ?_ | refine Runs.drawn (id := 24) mixed zK ?_ | refine Runs.region (id := 25) ?_ | refine Runs.region (id := 23) ?_ | refine yr ?_ | refine yd ?_ | ((first | refine d_guardPf rfl rfl ?_ ?_ | refine d_guardNf rfl rfl ?_ ?_ | refine d_guard rfl rfl ?_ ?_) <;> intro hG <;> (try (exfalso; omega; done)) <;> refine d_nn zN zH ?_) | (refine Runs.cond rfl (zc ?_) (zc ?_) <;> intro hc <;> (try (first | contradiction | (exfalso; omega; done) | (have : hc = trivial := rfl; clear this; clear hc)))))
      refine ihi (i + 1) _ zo zo ?_
      (refine St.Le.clean zR zU zV)
    · repeat' (first | refine yw ?_ | refine Runs.region (id := 22) ?_ | refine yr ?_ | (refine Runs.cond rfl (zc ?_) (zc ?_) <;> intro hc <;> (try (first | contradiction | (exfalso; omega; done) | (have : hc = trivial := rfl; clear this; clear hc)))))
      repeat' (first | refine yw ?_ | refine Runs.region (id := 26) ?_ | refine yr ?_ | (refine r_fn rfl (law_awake) HbF.h zL0 zD ?_; refine r_nn zN zH ?_) | (refine Runs.cond rfl (zc ?_) (zc ?_) <;> intro hc <;> (try (first | contradiction | (exfalso; omega; done) | (have : hc = trivial := rfl; clear this; clear hc)))))
      (refine Runs.ret1 Try.func8 rfl zM zD ?_; try exact zX)
end Go.Proofs
