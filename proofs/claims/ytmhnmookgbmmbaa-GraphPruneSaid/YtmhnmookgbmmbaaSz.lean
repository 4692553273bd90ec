/- The abstract machine: results that are lists of the callee's own; lists that are lent or given to a callee. -/
import Derived.Test.YtmhnmookgbmmbaaSy
set_option linter.unusedVariables false
set_option linter.unusedSimpArgs false
namespace Go.AM
open V (Le LeL)

theorem V.LeL1 {a a' : V} (h : Le a a') : LeL [a] [a'] := .cons h .nil
theorem V.LeL2 {a a' b b' : V} (h : Le a a') (k : Le b b') : LeL [a, b] [a', b'] := .cons h (LeL1 k)
theorem V.LeL3 {a a' b b' c c' : V} (h : Le a a') (k : Le b b') (l : Le c c') : LeL [a, b, c] [a', b', c'] := .cons h (LeL2 k l)
theorem V.LeL4 {a a' b b' c c' d d' : V} (h : Le a a') (k : Le b b') (l : Le c c') (m : Le d d') : LeL [a, b, c, d] [a', b', c', d'] := .cons h (LeL3 k l m)
theorem V.LeL5 {a a' b b' c c' d d' e e' : V} (h : Le a a') (k : Le b b') (l : Le c c') (m : Le d d') (n : Le e e') : LeL [a, b, c, d, e] [a', b', c', d', e'] := .cons h (LeL4 k l m n)
/-- What a contract says, said less. -/
theorem Spec.mono {P : Program} {f : FuncId} {args : List V} {H : Heap} {post post' : V → Heap → Prop} (h : Spec P f args H post) (hp : ∀ r H', post r H' → post' r H') : Spec P f args H post' := by
  intro w O xs loc S
  refine (h w O xs loc S).mono ?_
  rintro e w' ⟨r, H', x, loc', h1, h2, h3⟩
  exact ⟨r, H', x, loc', hp _ _ h1, h2, h3⟩
theorem Spec.le {P : Program} {f : FuncId} {args : List V} {H : Heap} {post post' : V → Heap → Prop} (h : Spec P f args H post)
    (hp : ∀ r H', post r H' → ∃ r' H'', post' r' H'' ∧ (⟨[r], H'⟩ : St).Le ⟨[r'], H''⟩) : Spec P f args H post' := by
  intro w O xs loc S
  refine (h w O xs loc S).mono ?_
  rintro e w' ⟨r, H', x, loc', h1, h2, h3⟩
  obtain ⟨r', H'', k1, k2⟩ := hp _ _ h1
  obtain ⟨loc'', k3⟩ := k2 w O _ loc' _ w' h3
  exact ⟨r', H'', x, loc'', k1, h2, k3⟩
/-- A list of the callee's own, taken as data. -/
theorem Fn.of_own {P : Program} {f : FuncId} {args : List V} {t : TypeId} {sz : Nat} {es : List V} (h : Spec P f args [] (OwnPost t sz fun l => l = es)) : Fn P f args (.sl false es) := by
  refine h.le ?_
  rintro r H' ⟨l, rfl, rfl, rfl⟩
  refine ⟨_, _, ⟨rfl, rfl⟩, ?_⟩
  have := St.Le.freeze_lst (s := ⟨[.own 0], [(0, .lst t sz l)]⟩) 0 (look_eq 0 _ _)
  simpa [V.frzL, V.frz, frzH] using this
/-- Arguments that say more. -/
theorem Spec.args {P : Program} {f : FuncId} {args args' : List V} {post : V → Heap → Prop} (h : Spec P f args' [] post) (hle : LeL args args') (hd : V.dataL args' = true) : Spec P f args [] post := by
  intro w O xs loc S
  have S' : SimAt w O (Owned [] loc) [] loc args' xs w := S.clean hle (V.usesL_data _ _ hd) trivial
  exact h w O xs loc S'
theorem Fn.weaken {P : Program} {f : FuncId} {args : List V} {r r' : V} (h : Fn P f args r) (hle : Le r r') (hd : r'.data = true) : Fn P f args r' := by
  refine Spec.le h ?_
  rintro x H' ⟨rfl, rfl⟩
  exact ⟨r', [], ⟨rfl, rfl⟩, St.Le.clean (.cons hle .nil) (by simp [V.usesL, V.uses_data _ _ hd]) trivial⟩

section
variable {P : Program} {f : FuncId} {k : List Item} {s : St}
/-- The return of a list that was the call's own, as data. -/
theorem Runs.ret_frz {fn : Func} {es' : List V} (hf : P.funcs[f]? = some fn) {j : Tmp} (hr : fn.results = #[.tmp j]) {d : Nat} (hs : s.slots.getD j .any = .own d) {t : TypeId} {sz : Nat} {es : List V} (hl : look s.heap d = some (.lst t sz es)) (he : es = es') :
    Runs P f (fun r' H' => r' = .sl false es' ∧ H' = []) (.code .ret :: k) s := by
  refine Runs.fact (F := V.dataL es = true) (fun w0 O M loc xs w S => (S.objs d _ hl).1.2) fun hd => ?_
  refine Runs.weaken (St.Le.freeze_lst d hl) (Runs.ret_fn hf ?_)
  rw [hr]
  subst he
  show Le ((V.frzL d (.sl false es) .junk s.slots).getD j .any) _ ∧ _
  rw [V.frzL_getD, hs]
  refine ⟨?_, by simpa [V.data] using hd⟩
  simp only [V.frz, if_true]
  exact .refl _
/-- The return of a list that is the call's own, or nil. -/
theorem Runs.ret_nil {fn : Func} (hf : P.funcs[f]? = some fn) {j : Tmp} (hr : fn.results = #[.tmp j]) (hs : s.slots.getD j .any = V.nilS) {t : TypeId} {sz : Nat} (hz : 0 < sz) {Q : List V → Prop} (hq : Q []) (hh : s.heap = []) :
    Runs P f (OwnPost t sz Q) (.code .ret :: k) s := by
  have hl : j < s.slots.length := by
    rcases Nat.lt_or_ge j s.slots.length with h | h
    · exact h
    · rw [List.getD_eq_getElem?_getD, List.getElem?_eq_none h] at hs; cases hs
  refine Runs.weaken (St.Le.nil 0 t sz j hz (by rw [hh]; rfl) hs hl) ?_
  refine Runs.ret_own hf hr (d := 0) (t := t) (sz := sz) (es := []) ?_ (look_eq 0 _ _) hq
  show (s.slots.set j (.own 0)).getD j .any = .own 0
  simp [List.getD_eq_getElem?_getD, hl]
end
end Go.AM
