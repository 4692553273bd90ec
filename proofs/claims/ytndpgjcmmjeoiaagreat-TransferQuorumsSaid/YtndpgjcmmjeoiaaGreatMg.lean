/- Ghosts: what is known of a concrete value; calls that are handed objects of the caller's own. Own work; imports the kit's laws only. -/
import Derived.Test.YtndpgjcmmjeoiaaGreatMe
set_option linter.unusedVariables false
set_option linter.unusedSimpArgs false
set_option maxRecDepth 8000
set_option maxHeartbeats 1000000
namespace Go.AM
open V (Le LeL)
section
variable {P : Program} {f : FuncId} {post : V → Heap → Prop} {todo : List Item} {s : St}
theorem Runs.atI {α : Type} (μ : α → Nat) (Inv : α → Prop) (I : α → St) (a0 : α) (h0 : Inv a0) (hle : s.Le (I a0)) (hs : ∀ a, Inv a → (∀ b s', Inv b → μ b < μ a → s'.Le (I b) → Runs P f post todo s') → Runs P f post todo (I a)) : Runs P f post todo s := by
  have key : ∀ n a, μ a = n → Inv a → Runs P f post todo (I a) := by
    intro n
    induction n using Nat.strongRecOn with
    | _ n ih =>
      intro a hn ha
      exact hs a ha fun b s' hb hlt hle' => Runs.weaken hle' (ih (μ b) (hn ▸ hlt) b rfl hb)
  exact Runs.weaken hle (key _ a0 rfl h0)
theorem set_self {α : Type} {l : List α} {j : Nat} {d : α} (hj : j < l.length) : l.set j (l.getD j d) = l := by
  apply List.ext_getElem?
  intro i
  rw [List.getElem?_set]
  by_cases h : j = i
  · subst h
    rw [if_pos rfl, if_pos hj, List.getElem?_eq_getElem hj, List.getD_eq_getElem?_getD, List.getElem?_eq_getElem hj]; rfl
  · rw [if_neg h]
def Gh (H : Heap) (v u : V) : Prop := ∀ (w0 : World) (O M : Nat → Prop) (loc : Nat → Value) (vs : List V) (xs : List Value) (w : World), SimAt w0 O M H loc vs xs w → ∀ x, Rel (env w O H loc) x v → Rel (env w O H loc) x u
theorem Gh.refl (H : Heap) (v : V) : Gh H v v := fun _ _ _ _ _ _ _ _ _ h => h
theorem Gh.le {H : Heap} {v u : V} (h : Le v u) : Gh H v u := fun _ _ _ _ _ _ _ _ _ r => V.Rel_le h r
theorem Gh.gho {H : Heap} (k : Nat) {x : Value} {v : V} (hk : look H k = some (.gho x v)) : Gh H (.sc x) v := fun _ _ _ _ _ _ _ S y hr => by
  rw [Rel.sc_iff.1 hr]; exact (S.objs k _ hk).1
theorem Gh.ptr {H : Heap} (k id i fo : Nat) {x : Value} {v : V} {g n : Nat} {o : Obj} (hk : look H k = some (.gho x v)) (hg : blk x = some g) (hv : v = .own id ∨ v = .ptr id 0 0) (ho : look H id = some o) (hn : n = i * o.sz + fo) : Gh H (.sc (.pointer (some ⟨g, n, none⟩))) (.ptr id i fo) := fun w0 O M loc vs xs w S y hr => by
  rw [Rel.sc_iff.1 hr]
  have h1 := (S.objs k _ hk).1
  have hb : blk (loc id) = some g := by
    rcases hv with rfl | rfl
    · obtain ⟨e, _⟩ := h1.own_inv
      have e' : x = loc id := e
      rw [← e']; exact hg
    · obtain ⟨o', g', e, _, h2⟩ := h1.ptr_inv
      rw [e] at hg
      simp only [blk, Option.some.injEq] at hg
      subst hg; exact h2
  subst hn
  exact .ptr id i fo o g ho hb
def GhL (H : Heap) : List V → List V → Prop
  | [], [] => True
  | v :: vs, u :: us => Gh H v u ∧ GhL H vs us
  | _, _ => False
theorem GhL.rel {H : Heap} {w0 : World} {O M : Nat → Prop} {loc : Nat → Value} {zs : List V} {xs : List Value} {w : World} (S : SimAt w0 O M H loc zs xs w) : ∀ {vs us : List V} {ys : List Value}, GhL H vs us → RelL (env w O H loc) ys vs → RelL (env w O H loc) ys us
  | [], [], ys, _, h => h
  | v :: vs, u :: us, [], _, h => by have := h.1; simp at this
  | v :: vs, u :: us, y :: ys, hg, h => .cons (hg.1 w0 O M loc zs xs w S y h.uncons.1) (GhL.rel S hg.2 h.uncons.2)
  | [], _ :: _, _, h, _ => h.elim
  | _ :: _, [], _, h, _ => h.elim
end
section
variable {P : Program} {A : Array Oper} {rest : List Oper} {slots : List V} {H : Heap} {K1 : St → Prop} {D : Nat} {t : TypeId} {pos : String} {af : Array Edge}
end
end Go.AM
