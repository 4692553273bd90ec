/- The abstract machine, part 15: regions whose order is drawn: one walk in the text's order serves every order. -/
import Derived.Test.YtmhnmookgbmmbaaAm14
set_option linter.unusedVariables false
set_option linter.unusedSimpArgs false
namespace Go.AM
open V (Le LeL)

/-- A call of data to data, its value handed on. -/
def CallD (P : Program) (fv : V) (vs : List V) (K : V → Prop) : Prop := ∃ f caps us r, fv = .fn f caps ∧ hasBody P f ∧ Fn P f us r ∧ LeL (vs ++ caps) us ∧ V.dataL us = true ∧ K r
@[congr] theorem CallD_congr {P : Program} {fv fv' : V} {vs vs' : List V} {K : V → Prop} (h1 : fv = fv') (h2 : vs = vs') : CallD P fv vs K = CallD P fv' vs' K := by subst h1; subst h2; rfl
theorem CallD.fn {P : Program} {f : FuncId} {caps vs us : List V} {r : V} {K : V → Prop} (hs : Fn P f us r) (hb : hasBody P f) (hle : LeL (vs ++ caps) us) (hd : V.dataL us = true) (hK : K r) : CallD P (.fn f caps) vs K :=
  ⟨f, caps, us, r, rfl, hb, hs, hle, hd, hK⟩

def dK (P : Program) (o : Oper) (e : Operand → V) (H : Heap) (K : V → Heap → Prop) : Prop := match o.op with
  | .call { callee := .value x, args, argTypes } => CallD P (e x) (args.toList.map e) fun r => K r H
  | .buildSlice t n parts => match slv P t with
    | some (te, sz, _) => 0 < sz ∧ n * sz ≤ 16777216 ∧ zok P te sz ∧ (parts.toList.map (·.1)) = List.range n ∧ V.dataL (parts.toList.map fun p => e p.2) = true ∧ Storable (parts.toList.map fun p => e p.2) ∧ Stride sz (parts.toList.map fun p => e p.2) ∧
        K (.sl true (parts.toList.map fun p => e p.2)) H
    | none => False
  | .store t a x => match tyv P t with
    | some (_, n) => match e a with
      | .ptr id i fo => match look H id with
        | some ob => i < ob.len ∧ fo + n ≤ (ob.elem i).cells.length ∧ 0 < n ∧ (e x).cells.length = n ∧ (e x).okCells = true ∧ (isVar ob = true ∨ (e x).data = true) ∧
            K .any (upd H id (ob.wr i fo (e x).cells))
        | none => False
      | _ => False
    | none => False
  | op => valK P op e H fun v => K v H

/-- A REGION WHOSE ORDER IS DRAWN. -/
def evalD (P : Program) (ops : Array Oper) : List Oper → St → (St → Prop) → Prop
  | [], s, K => K s
  | o :: rest, s, K => match o.guard with
    | none => dK P o (ev s.slots) s.heap fun v H' => evalD P ops rest ((⟨s.slots, H'⟩ : St).put o.dst v) K
    | some (j, want) => match (ops[j]?).bind (·.dst) with
      | some d => match s.slots.getD d .any with
        | .sc (.bool b) => (b = want → dK P o (ev (s.slots.set d (.sc (.bool want)))) s.heap fun v H' => evalD P ops rest ((⟨s.slots.set d (.sc (.bool want)), H'⟩ : St).put o.dst v) K) ∧
            (b = (!want) → evalD P ops rest ((⟨s.slots.set d (.sc (.bool (!want))), s.heap⟩ : St).put o.dst (.sc undef)) K)
        | .sc (.tuple _) => evalD P ops rest (s.put o.dst (.sc undef)) K
        | _ => False
      | none => False

/-! ### One value each -/
theorem cmpK_point {op : BinOp} {a b : Int} {K : V → Prop} (h : cmpK op a b K) : ∃ v, cmpK op a b (fun u => u = v) ∧ K v := by
  cases op <;> simp only [cmpK] at h ⊢ <;> first | exact h.elim | exact ⟨_, rfl, h⟩
theorem intK_point {op : BinOp} {k k' : IntKind} {a b : Int} {K : V → Prop} (h : intK op k k' a b K) : ∃ v, intK op k k' a b (fun u => u = v) ∧ K v := by
  cases op <;> simp only [intK] at h ⊢ <;> first
    | exact ⟨_, ⟨h.1, rfl⟩, h.2⟩
    | exact ⟨_, ⟨h.1, h.2.1, rfl⟩, h.2.2⟩
    | (obtain ⟨v, h1, h2⟩ := cmpK_point h.2; exact ⟨v, ⟨h.1, h1⟩, h2⟩)
theorem strK_point {op : BinOp} {a b : ByteArray} {K : V → Prop} (h : strK op a b K) : ∃ v, strK op a b (fun u => u = v) ∧ K v := by
  cases op <;> simp only [strK] at h ⊢ <;> first | exact h.elim | exact ⟨_, rfl, h⟩ | exact ⟨_, ⟨h.1, rfl⟩, h.2⟩
theorem binK_point {P : Program} {op : BinOp} {t : TypeId} {x y : V} {K : V → Prop} (h : binK P op t x y K) : ∃ v, binK P op t x y (fun u => u = v) ∧ K v := by
  unfold binK at h ⊢
  revert h
  (repeat' split) <;> intro h <;> first
    | exact h.elim
    | exact intK_point h
    | exact strK_point h
    | exact ⟨_, rfl, h⟩
    | exact ⟨_, ⟨h.1, rfl⟩, h.2⟩
    | exact ⟨_, ⟨h.1, h.2.1, rfl⟩, h.2.2⟩
theorem unK_point {op : UnOp} {x : V} {K : V → Prop} (h : unK op x K) : ∃ v, unK op x (fun u => u = v) ∧ K v := by
  unfold unK at h ⊢
  revert h
  (repeat' split) <;> intro h <;> first | exact h.elim | exact ⟨_, rfl, h⟩
theorem convK_point {P : Program} {src dst : TypeId} {x : V} {K : V → Prop} (h : convK P src dst x K) : ∃ v, convK P src dst x (fun u => u = v) ∧ K v := by
  unfold convK at h ⊢
  revert h
  (repeat' split) <;> intro h <;> first | exact h.elim | exact ⟨_, rfl, h⟩
theorem valK_point {P : Program} {op : Op} {e : Operand → V} {H : Heap} {K : V → Prop} (h : valK P op e H K) : ∃ v, valK P op e H (fun u => u = v) ∧ K v := by
  cases op with
  | binOp op t x y ty => simp only [valK] at h ⊢; exact binK_point h
  | unOp op t x => simp only [valK] at h ⊢; exact unK_point h
  | convert s d x => simp only [valK] at h ⊢; exact convK_point h
  | call c =>
    obtain ⟨callee, args, argTypes⟩ := c
    cases callee with
    | builtin b =>
      cases b <;> simp only [valK] at h ⊢ <;> revert h <;> (repeat' split) <;> intro h <;> first
        | exact h.elim
        | exact ⟨_, rfl, h⟩
        | exact ⟨_, ⟨h.1, rfl⟩, h.2⟩
    | value f => simp only [valK] at h
    | invoke r m => simp only [valK] at h
  | makeFunc fn first caps =>
    cases fn <;> simp only [valK] at h ⊢ <;> first | exact h.elim | exact ⟨_, ⟨h.1, rfl⟩, h.2⟩
  | index t x i =>
    simp only [valK] at h ⊢
    revert h
    (repeat' split) <;> intro h <;> first
      | exact h.elim
      | exact ⟨_, ⟨h.1, h.2.1, h.2.2.1, rfl⟩, h.2.2.2⟩
      | (obtain ⟨h1, h2, h3⟩ := h; exact ⟨_, ⟨h1, h2, rfl⟩, h3⟩)
  | _ => first
    | (simp only [valK] at h; done)
    | simp only [valK] at h ⊢
      revert h
      (repeat' split) <;> intro h <;> first
      | exact h.elim
      | exact h.2.elim
      | exact ⟨_, rfl, h⟩
      | exact ⟨_, ⟨h.1, rfl⟩, h.2⟩
      | exact ⟨_, ⟨h.1, h.2.1, rfl⟩, h.2.2⟩
      | exact ⟨_, ⟨h.1, h.2.1, h.2.2.1, rfl⟩, h.2.2.2⟩
      | exact ⟨_, ⟨h.1, h.2.1, h.2.2.1, h.2.2.2.1, rfl⟩, h.2.2.2.2⟩
      | exact ⟨_, ⟨h.1, h.2.1, h.2.2.1, h.2.2.2.1, h.2.2.2.2.1, rfl⟩, h.2.2.2.2.2⟩
theorem dK_point {P : Program} {o : Oper} {e : Operand → V} {H : Heap} {K : V → Heap → Prop} (h : dK P o e H K) : ∃ v H', dK P o e H (fun u G => u = v ∧ G = H') ∧ K v H' := by
  unfold dK at h ⊢
  revert h
  split
  · rintro ⟨f, caps, us, r, h1, h2, h3, h4, h5, h6⟩
    exact ⟨r, H, ⟨f, caps, us, r, h1, h2, h3, h4, h5, rfl, rfl⟩, h6⟩
  · split
    · rintro ⟨h1, h2, h3, h4, h5, h6, h7, h8⟩
      exact ⟨_, _, ⟨h1, h2, h3, h4, h5, h6, h7, rfl, rfl⟩, h8⟩
    · exact fun h => h.elim
  · split
    · split
      · split
        · rintro ⟨h1, h2, h3, h4, h5, h6, h7⟩
          exact ⟨_, _, ⟨h1, h2, h3, h4, h5, h6, rfl, rfl⟩, h7⟩
        · exact fun h => h.elim
      · exact fun h => h.elim
    · exact fun h => h.elim
  · intro h
    obtain ⟨v, h1, h2⟩ := valK_point h
    refine ⟨v, H, ?_, h2⟩
    have : (fun u => u = v ∧ H = H) = (fun u => u = v) := by funext u; simp
    rw [this]; exact h1
end Go.AM
