/- The abstract machine, part 4: 'valK' is sound. -/
import Derived.Test.YtmhnmookgbmmbaaAm3
import Derived.WideLaws
import Derived.Laws.StructEq
import Derived.Laws.Small
set_option linter.unusedVariables false
set_option linter.unusedSimpArgs false
namespace Go.AM

theorem addr_add (g a k : Nat) : (⟨g, a, none⟩ : Addr).add k = ⟨g, a + k, none⟩ := by unfold Addr.add; split <;> simp_all

/-- A variable is read. -/
theorem run_loadVar {P : Program} {t : TypeId} {ag : Bool} {n : Nat} (ht : tyv P t = some (ag, n)) {w : World} {g a : Nat} {f : Nat → Value}
    (hc : ∀ k, k < n → w.cell? ⟨g, a + k, none⟩ = some (f k)) (h0 : 0 < n ∨ ag = true) :
    (loadVar t ⟨g, a, none⟩).run P w = .ok (if ag then .agg ((List.range n).map f).toArray else f 0) w := by
  obtain ⟨h1, h2⟩ := tyv_run ht w
  unfold loadVar
  rw [Sem.run_bind, h1]
  simp only [Result.andThen_ok]
  cases ag with
  | true =>
    simp only [if_true]
    rw [Sem.run_bind, h2]
    simp only [Result.andThen_ok]
    rw [Sem.run_bind, run_loadCells w _ n f (fun k hk => by rw [addr_add]; exact hc k hk)]
    simp
  | false =>
    simp only [Bool.false_eq_true, if_false]
    have := hc 0 (by simpa using h0)
    simp only [Nat.add_zero] at this
    rw [run_load, this]

section
variable {P : Program} {w : World} {O : Nat → Prop} {H : Heap} {loc : Nat → Value}

theorem rel_range {E : Env} {f : Nat → Value} {cs : List V} {n : Nat} (hn : n ≤ cs.length) (hr : ∀ j, j < n → Rel E (f j) (cs.getD j .any)) : Rel E (.agg ((List.range n).map f).toArray) (.agg (cs.take n)) := by
  refine Rel.agg_iff.2 ⟨_, rfl, by simp; omega, fun i hi => ?_⟩
  have hi' : i < n := by simp at hi; omega
  have e1 : ((List.range n).map f).getD i undef = f i := by simp [List.getD_eq_getElem?_getD, hi']
  have e2 : (cs.take n).getD i .any = cs.getD i .any := by simp [List.getD_eq_getElem?_getD, List.getElem?_take, hi']
  simp only [e1, e2]
  exact hr i hi'

/-- The cells of an element of an object. -/
theorem ObjOK.elem_cells {E : Env} {id : Nat} {o : Obj} (h : ObjOK E id o) {g : Nat} (hg : blk (E.loc id) = some g) {i : Nat} (hi : i < o.len) :
    ∃ f : Nat → Value, (∀ k, k < (o.elem i).cells.length → E.w.cell? ⟨g, i * o.sz + k, none⟩ = some (f k)) ∧ (∀ k, k < (o.elem i).cells.length → Rel E (f k) ((o.elem i).cells.getD k .any)) := by
  cases o with
  | var t v =>
    obtain ⟨g', arr, e, hh, hr⟩ := h
    rw [e] at hg; simp [blk] at hg; subst hg
    refine ⟨fun k => arr.getD k undef, fun k hk => ?_, fun k hk => by simpa [Array.getD_eq_getD_getElem?, List.getD_eq_getElem?_getD, Obj.elem] using hr.2 k hk⟩
    have hk' : k < arr.size := by have := hr.1; simp at this; simp only [Obj.elem] at hk; omega
    rw [cell_of_row E.w g' _ arr t (0, 0) hh]
    simp [Obj.sz, Array.getD_eq_getD_getElem?, hk']
  | lst t sz es =>
    obtain ⟨hz, xs, ho, hf1, hf2⟩ := h
    have hi' : i < es.length := hi
    have hn : (E.loc id).ownBlock = some g := by
      rcases ho.2 with ⟨e, _⟩ | ⟨g', cap, cur, e, _⟩
      · rw [e] at hg; simp [blk] at hg
      · rw [e] at hg ⊢; exact hg
    refine ⟨fun k => xs.getD (i * sz + k) undef, fun k hk => ?_, fun k hk => ?_⟩
    · have hk' : k < sz := by have := hf1 i hi'; simp only [Obj.elem] at hk; omega
      have hb : i * sz + k < xs.length := by
        rw [ho.1]
        have : (i + 1) * sz ≤ es.length * sz := Nat.mul_le_mul_right _ hi'
        rw [Nat.add_mul] at this; omega
      have := ho.cells hn (i * sz + k) (xs.getD (i * sz + k) undef) (by simp [List.getD_eq_getElem?_getD, List.getElem?_eq_getElem hb])
      rw [addr_add] at this
      simpa [Obj.sz] using this
    · have hk' : k < sz := by have := hf1 i hi'; simp only [Obj.elem] at hk; omega
      exact hf2 i k hi' hk'
  | row t sz es =>
    obtain ⟨hz, g', arr, e, hh, hs, hm, hf1, hf2⟩ := h
    have hi' : i < es.length := hi
    rw [e] at hg; simp [blk] at hg; subst hg
    refine ⟨fun k => arr.getD (i * sz + k) undef, fun k hk => ?_, fun k hk => ?_⟩
    · have hk' : k < sz := by have := hf1 i hi'; simp only [Obj.elem] at hk; omega
      have hb : i * sz + k < arr.size := by
        rw [hs]
        have : (i + 1) * sz ≤ es.length * sz := Nat.mul_le_mul_right _ hi'
        rw [Nat.add_mul] at this; omega
      rw [cell_of_row E.w g' _ arr t (0, 0) hh]
      simp [Obj.sz, Array.getD_eq_getD_getElem?, hb]
    · have hk' : k < sz := by have := hf1 i hi'; simp only [Obj.elem] at hk; omega
      exact hf2 i k hi' hk'
  | map ks vs => simp [Obj.len] at hi

theorem load_sound {ty : TypeId} {ag : Bool} {n : Nat} (ht : tyv P ty = some (ag, n)) {x : Value} {p v : V} {fo : Nat} (h0 : 0 < n ∨ ag = true)
    (hx : (p = .pt v ∧ fo = 0 ∧ n ≤ v.cells.length) ∨ ∃ id i o, p = .ptr id i fo ∧ look H id = some o ∧ i < o.len ∧ v = o.elem i ∧ fo + n ≤ (o.elem i).cells.length)
    (hr : Rel (env w O H loc) x p) (hobj : ∀ id o, look H id = some o → ObjOK (env w O H loc) id o) :
    ∃ y, (Instr.loadAt ty x).run P w = .ok y w ∧ Rel (env w O H loc) y (v.sub ag fo n) := by
  have key : ∀ (g a : Nat) (f : Nat → Value), x = .pointer (some ⟨g, a, none⟩) → (∀ k, k < n → w.cell? ⟨g, a + k, none⟩ = some (f k)) →
      (∀ j, j < n → Rel (env w O H loc) (f j) ((v.cells.drop fo).getD j .any)) → n ≤ (v.cells.drop fo).length →
      ∃ y, (Instr.loadAt ty x).run P w = .ok y w ∧ Rel (env w O H loc) y (v.sub ag fo n) := by
    intro g a f he hc hrel hl
    subst he
    refine ⟨_, by simp only [Instr.loadAt, Instr.sureAddr, Sem.run_bind, Sem.run_pure, Result.andThen_ok]; exact run_loadVar ht hc h0, ?_⟩
    unfold V.sub
    cases ag with
    | true => simp only [if_true]; exact rel_range hl hrel
    | false =>
      simp only [Bool.false_eq_true, if_false]
      have := hrel 0 (by simpa using h0)
      simpa [List.getD_eq_getElem?_getD] using this
  rcases hx with ⟨rfl, rfl, hn⟩ | ⟨id, i, o, rfl, ho, hi, rfl, hn⟩
  · cases hr with
    | pt v g off f a1 a2 a3 a4 =>
      exact key g off f rfl (fun k hk => a3 k (by omega)) (fun j hj => by simpa using a4 j (by omega)) (by simpa using hn)
  · cases hr with
    | ptr _ _ _ o' g a1 a2 =>
      have : o' = o := by have : look H id = some o' := a1; rw [ho] at this; cases this; rfl
      subst this
      obtain ⟨f, h1, h2⟩ := (hobj id o' ho).elem_cells a2 hi
      refine key g _ (fun k => f (fo + k)) rfl (fun k hk => ?_) (fun j hj => ?_) (by simp; omega)
      · have := h1 (fo + k) (by omega)
        rw [Nat.add_assoc]; exact this
      · have := h2 (fo + j) (by omega)
        simpa [List.getD_eq_getElem?_getD, List.getElem?_drop] using this

theorem rel_getD {E : Env} {arr : Array Value} {cs : List V} (h : RelL E arr.toList cs) (i : Nat) : Rel E (arr.getD i undef) (cs.getD i .any) := by
  simpa [Array.getD_eq_getD_getElem?, List.getD_eq_getElem?_getD] using h.getD i

/-- A part of a struct or an array by value. -/
theorem part_sound {E : Env} {ty : TypeId} {ag : Bool} {n : Nat} (ht : tyv P ty = some (ag, n)) {arr : Array Value} {cs : List V} {off : Nat} (hr : RelL E arr.toList cs) (hn : off + n ≤ cs.length) (h0 : 0 < n) (w : World) :
    ∃ y, (part ty arr off).run P w = .ok y w ∧ Rel E y ((V.agg cs).sub ag off n) := by
  obtain ⟨h1, h2⟩ := tyv_run ht w
  have hsz : arr.size = cs.length := by have := hr.1; simpa using this
  unfold part V.sub
  rw [Sem.run_bind, h1]
  simp only [Result.andThen_ok, V.cells]
  cases ag with
  | true =>
    simp only [if_true]
    rw [Sem.run_bind, h2]
    simp only [Result.andThen_ok, Sem.run_pure]
    refine ⟨_, rfl, Rel.agg_iff.2 ⟨_, rfl, ?_⟩⟩
    refine ⟨by simp; omega, fun i hi => ?_⟩
    have hi' : i < n := by simp at hi; omega
    have := hr.2 (off + i) (by omega)
    have e1 : ((arr.extract off (off + n)).toList).getD i undef = arr.toList.getD (off + i) undef := by
      simp [List.getD_eq_getElem?_getD, List.getElem?_take, List.getElem?_drop, hi']
    have e2 : ((cs.drop off).take n).getD i .any = cs.getD (off + i) .any := by
      simp [List.getD_eq_getElem?_getD, List.getElem?_take, List.getElem?_drop, hi']
    simp only [e1, e2]; exact this
  | false =>
    simp only [Bool.false_eq_true, if_false]
    have hlt : off < arr.size := by omega
    have e : arr[off]? = some (arr.getD off undef) := by simp [Array.getD_eq_getD_getElem?, hlt]
    refine ⟨arr.getD off undef, by rw [e]; rfl, rel_getD hr off⟩

theorem rel_int {E : Env} {x : Value} {k : IntKind} {j : Int} (h : Rel E x (.sc (.int k j))) : x = .int k j := by cases h; rfl

theorem cmp_sound {op : BinOp} {a b : Int} {K : V → Prop} (h : cmpK op a b K) {E : Env} {w : World} : ∃ y v, (Op.intCmp op a b).run P w = .ok y w ∧ Rel E y v ∧ K v := by
  cases op <;> simp only [cmpK] at h <;> first
    | exact h.elim
    | exact ⟨_, _, rfl, .sc _, by first | exact h | (rw [show (a == b) = decide (a = b) from (by by_cases e : a = b <;> simp [e])]; exact h) | (rw [show (a != b) = !decide (a = b) from (by by_cases e : a = b <;> simp [e])]; exact h)⟩

theorem int_sound {op : BinOp} {k k' : IntKind} {a b : Int} {K : V → Prop} (h : intK op k k' a b K) {E : Env} {t : TypeId} {w : World} :
    ∃ y v, (binOp op t (.int k a) (.int k' b)).run P w = .ok y w ∧ Rel E y v ∧ K v := by
  cases op <;> simp only [intK] at h
  case add => obtain ⟨rfl, h⟩ := h; exact ⟨_, _, by simp [binOp, Op.intArith], .sc _, h⟩
  case sub => obtain ⟨rfl, h⟩ := h; exact ⟨_, _, by simp [binOp, Op.intArith], .sc _, h⟩
  case mul => obtain ⟨rfl, h⟩ := h; exact ⟨_, _, by simp [binOp, Op.intArith], .sc _, h⟩
  case quo => obtain ⟨rfl, h0, h⟩ := h; exact ⟨_, _, by simp [binOp, Op.intDiv, h0], .sc _, h⟩
  case rem => obtain ⟨rfl, h0, h⟩ := h; exact ⟨_, _, by simp [binOp, Op.intDiv, h0], .sc _, h⟩
  case and => obtain ⟨rfl, h⟩ := h; exact ⟨_, _, by simp [binOp, Op.intBits], .sc _, h⟩
  case or => obtain ⟨rfl, h⟩ := h; exact ⟨_, _, by simp [binOp, Op.intBits], .sc _, h⟩
  case xor => obtain ⟨rfl, h⟩ := h; exact ⟨_, _, by simp [binOp, Op.intBits], .sc _, h⟩
  case andNot => obtain ⟨rfl, h⟩ := h; exact ⟨_, _, by simp [binOp, Op.intBits], .sc _, h⟩
  case shl => obtain ⟨h0, h⟩ := h; exact ⟨_, _, by simp [binOp, Op.shift, show ¬ b < 0 by omega], .sc _, h⟩
  case shr => obtain ⟨h0, h⟩ := h; exact ⟨_, _, by simp [binOp, Op.shift, show ¬ b < 0 by omega], .sc _, h⟩
  all_goals
    obtain ⟨rfl, h⟩ := h
    simpa [binOp] using cmp_sound (P := P) h (E := E) (w := w)
end
end Go.AM
