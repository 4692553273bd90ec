/- The abstract machine: the equations by which regions are walked. -/
import Derived.Test.YtmhnmookgbmmbaaAm17
import Derived.IntWalk
set_option linter.unusedVariables false
set_option linter.unusedSimpArgs false
namespace Go.AM
open V (Le LeL)
section
variable {P : Program} {ops rest : List Oper} {A : Array Oper} {s : St} {H : Heap} {slots : List V} {K : V → St → Prop} {K1 : St → Prop} {K0 : V → Prop} {KH : V → Heap → Prop} {d : Option Tmp} {t : TypeId} {pos : String} {af : Array Edge}

theorem evalR_nil : evalR P A [] s K1 = K1 s := rfl
theorem evalR_cons {op : Op} : evalR P A (⟨d, op, t, pos, af, none⟩ :: rest) ⟨slots, H⟩ K1 = stepR P ⟨d, op, t, pos, af, none⟩ ⟨slots, H⟩ fun v s' => evalR P A rest (s'.put d v) K1 := rfl
theorem evalR_guard {op : Op} {j : Nat} {want : Bool} : evalR P A (⟨d, op, t, pos, af, some (j, want)⟩ :: rest) ⟨slots, H⟩ K1 = match (A[j]?).bind (·.dst) with
      | some d' => match slots.getD d' .any with
        | .sc (.bool b) => (b = want → stepR P ⟨d, op, t, pos, af, some (j, want)⟩ ⟨slots.set d' (.sc (.bool want)), H⟩ fun v s' => evalR P A rest (s'.put d v) K1) ∧
            (b = (!want) → evalR P A rest ((⟨slots.set d' (.sc (.bool (!want))), H⟩ : St).put d (.sc undef)) K1)
        | .sc (.tuple _) => evalR P A rest ((⟨slots, H⟩ : St).put d (.sc undef)) K1
        | _ => False
      | none => False := rfl
theorem evalD_nil : evalD P A [] s K1 = K1 s := rfl
theorem evalD_cons {op : Op} : evalD P A (⟨d, op, t, pos, af, none⟩ :: rest) ⟨slots, H⟩ K1 = dK P ⟨d, op, t, pos, af, none⟩ (ev slots) H fun v H' => evalD P A rest ((⟨slots, H'⟩ : St).put d v) K1 := rfl
theorem evalD_guard {op : Op} {j : Nat} {want : Bool} : evalD P A (⟨d, op, t, pos, af, some (j, want)⟩ :: rest) ⟨slots, H⟩ K1 = match (A[j]?).bind (·.dst) with
      | some d' => match slots.getD d' .any with
        | .sc (.bool b) => (b = want → dK P ⟨d, op, t, pos, af, some (j, want)⟩ (ev (slots.set d' (.sc (.bool want)))) H fun v H' => evalD P A rest ((⟨slots.set d' (.sc (.bool want)), H'⟩ : St).put d v) K1) ∧
            (b = (!want) → evalD P A rest ((⟨slots.set d' (.sc (.bool (!want))), H⟩ : St).put d (.sc undef)) K1)
        | .sc (.tuple _) => evalD P A rest ((⟨slots, H⟩ : St).put d (.sc undef)) K1
        | _ => False
      | none => False := rfl
end
section
variable {P : Program} {f : FuncId} {k : List Item} {s : St}
/-- The return of a function of data. -/
theorem Runs.ret_fn {fn : Func} {r : V} (hf : P.funcs[f]? = some fn) (h : resK P s fn.results.toList fun vs => Le (pack vs) r ∧ r.data = true) : Runs P f (fun r' H' => r' = r ∧ H' = []) (.code .ret :: k) s := by
  refine Runs.ret_data hf ?_
  revert h
  have mono : ∀ (rs : List ResultVar) (K K' : List V → Prop), (∀ vs, K vs → K' vs) → resK P s rs K → resK P s rs K' := by
    intro rs
    induction rs with
    | nil => intro K K' h hk; exact h _ hk
    | cons r rs ih =>
      intro K K' h hk
      cases r with
      | tmp t => exact ih _ _ (fun vs => h _) hk
      | cell t ty =>
        simp only [resK, valK] at hk ⊢
        revert hk
        split
        · split
          · rintro ⟨h1, h2, h3⟩; exact ⟨h1, h2, ih _ _ (fun vs => h _) h3⟩
          · split
            · rintro ⟨h1, h2, h3, h4⟩; exact ⟨h1, h2, h3, ih _ _ (fun vs => h _) h4⟩
            · exact fun h => h
          · exact fun h => h
        · exact fun h => h
  refine mono _ _ _ ?_
  rintro vs ⟨h1, h2⟩
  exact ⟨r, h1, h2, rfl, rfl⟩
/-- A loop by a measure: 'I a' is its state at the head. -/
theorem Runs.loopI {f : FuncId} {post : V → Heap → Prop} {k : List Item} {s : St} {body : Code} {α : Type} (μ : α → Nat) (Inv : α → Prop) (I : α → St) (a0 : α) (h0 : Inv a0) (hle : s.Le (I a0))
    (hs : ∀ a, Inv a → (∀ b s', Inv b → μ b < μ a → s'.Le (I b) → Runs P f post (.inLoop body :: k) s') → Runs P f post (.code body :: .inLoop body :: k) (I a)) : Runs P f post (.code (.loop body) :: k) s := by
  have key : ∀ n a, μ a = n → Inv a → Runs P f post (.code body :: .inLoop body :: k) (I a) := by
    intro n
    induction n using Nat.strongRecOn with
    | _ n ih =>
      intro a hn ha
      refine hs a ha fun b s' hb hlt hle' => ?_
      exact Runs.inLoop (Runs.weaken hle' (ih (μ b) (hn ▸ hlt) b rfl hb))
  exact Runs.loop (Runs.weaken hle (key _ a0 rfl h0))
@[congr] theorem Runs_congr {f : FuncId} {post : V → Heap → Prop} {k : List Item} {s s' : St} (h : s = s') : Runs P f post k s = Runs P f post k s' := by subst h; rfl
theorem CallS.fn' {g : FuncId} {caps vs us : List V} {r : V} {K : V → St → Prop} (hs : Fn P g us r) (hb : hasBody P g) (hle : LeL (vs ++ caps) us) (hd : V.dataL us = true) (hK : K r s) : CallS P (.fn g caps) vs s K := CallS.fn hs hb hle hd hK
end

namespace V
mutual
/-- The lengths of all slices within are possible. -/
def lens : V → Prop
  | .sl _ es => es.length ≤ 9223372036854775807 ∧ lensL es
  | .agg cs => lensL cs
  | .tup cs => lensL cs
  | .pt v => lens v
  | .fn _ _ => True
  | .dmp _ _ => True
  | .sc _ => True
  | .any => True
  | .junk => True
  | .own _ => True
  | .ptr .. => True
  | .vw .. => True
  | .mp _ => True
def lensL : List V → Prop
  | [] => True
  | v :: vs => lens v ∧ lensL vs
end
theorem lensL_iff {vs : List V} : lensL vs ↔ ∀ v ∈ vs, lens v := by
  induction vs with
  | nil => simp [lensL]
  | cons v vs ih => simp [lensL, ih]
theorem lensL_of_getD {vs : List V} (h : ∀ i, i < vs.length → lens (vs.getD i .any)) : lensL vs := by
  rw [lensL_iff]
  intro v hv
  obtain ⟨i, hi, rfl⟩ := List.mem_iff_getElem.1 hv
  simpa [List.getD_eq_getElem?_getD, hi] using h i hi
theorem lens_of_cells {v : V} (h : lensL v.cells) : lens v := by
  cases v <;> first | exact h.1 | exact h | trivial
theorem lensL_map {α : Type} {g : α → V} {xs : List α} : lensL (xs.map g) ↔ ∀ x ∈ xs, lens (g x) := by simp [lensL_iff]
end V
theorem Rel.lens {E : Env} {x : Value} {v : V} (h : Rel E x v) : v.lens := by
  induction h with
  | agg arr cs h1 _ ih => exact V.lensL_of_getD ih
  | tup arr cs h1 _ ih => exact V.lensL_of_getD ih
  | nil => exact ⟨by simp, trivial⟩
  | sl full es g off c sz f a1 a2 a3 a4 a5 a6 a7 a8 a9 ih =>
    refine ⟨Nat.le_trans a2 (Nat.le_trans a3 (by decide)), V.lensL_of_getD fun i hi => V.lens_of_cells (V.lensL_of_getD fun j hj => ih i j hi (by rw [← a7 i hi]; exact hj))⟩
  | pt v g off f a1 a2 a3 a4 ih => exact V.lens_of_cells (v := v) (V.lensL_of_getD ih)
  | _ => trivial
section
variable {P : Program} {f : FuncId} {post : V → Heap → Prop} {k : List Item} {s : St}
theorem Runs.fact {F : Prop} (hf : ∀ w0 O M loc xs w, SimAt w0 O M s.heap loc s.slots xs w → F) (h : F → Runs P f post k s) : Runs P f post k s :=
  fun w0 O M loc a w b cs hd S hb hk => h (hf w0 O M loc _ w S) w0 O M loc a w b cs hd S hb hk
/-- What is known of lengths. -/
theorem Runs.lens (i : Nat) (h : (s.slots.getD i .any).lens → Runs P f post k s) : Runs P f post k s :=
  Runs.fact (fun w0 O M loc xs w S => (S.vals.getD i).lens) h
end
namespace V
theorem cells_agg (cs : List V) : (V.agg cs).cells = cs := rfl
theorem cells_sc (x : Value) : (V.sc x).cells = [V.sc x] := rfl
theorem cells_any : V.any.cells = [V.any] := rfl
theorem cells_junk : V.junk.cells = [V.junk] := rfl
theorem cells_sl (f : Bool) (es : List V) : (V.sl f es).cells = [V.sl f es] := rfl
theorem cells_pt (v : V) : (V.pt v).cells = [V.pt v] := rfl
theorem cells_fn (f : FuncId) (cs : List V) : (V.fn f cs).cells = [V.fn f cs] := rfl
theorem cells_own (id : Nat) : (V.own id).cells = [V.own id] := rfl
theorem cells_ptr (id i fo : Nat) : (V.ptr id i fo).cells = [V.ptr id i fo] := rfl
theorem cells_vw (id o l c : Nat) : (V.vw id o l c).cells = [V.vw id o l c] := rfl
theorem cells_mp (id : Nat) : (V.mp id).cells = [V.mp id] := rfl
theorem cells_dmp (ks : List Value) (vs : List V) : (V.dmp ks vs).cells = [V.dmp ks vs] := rfl
end V
theorem u64_i64 {n : Int} (h : 0 ≤ n ∧ n ≤ 18446744073709551615) : IntKind.u64.wrap (IntKind.i64.wrap n) = n := by
  rw [IntKind.wrap_i64]
  simp only [IntKind.wrap, IntKind.bits, IntKind.signed]
  simp
  omega
theorem shr1 (a : Int) : a.fdiv (2 ^ (min (Int.toNat 1) (IntKind.bits .u64))) = a / 2 := by
  rw [show min (Int.toNat 1) (IntKind.bits .u64) = 1 from rfl, Int.fdiv_eq_ediv_of_nonneg] <;> simp
theorem half (a b : Nat) : ((a : Int) + (b : Int)) / 2 = (((a + b) / 2 : Nat) : Int) := by omega
theorem look_nil (id : Nat) : look [] id = none := rfl
theorem look_cons (k id : Nat) (o : Obj) (H : Heap) : look ((k, o) :: H) id = if k = id then some o else look H id := rfl
theorem upd_nil (id : Nat) (o : Obj) : upd [] id o = [] := rfl
theorem upd_cons (k id : Nat) (o p : Obj) (H : Heap) : upd ((k, p) :: H) id o = if k = id then (k, o) :: upd H id o else (k, p) :: upd H id o := rfl
theorem Storable_nil : Storable [] := by simp [Storable]
theorem Storable_cons (v : V) (vs : List V) : Storable (v :: vs) = (v.okCells = true ∧ Storable vs) := by simp [Storable]
theorem Storable_map {α : Type} (g : α → V) (xs : List α) (h : ∀ x, (g x).okCells = true) : Storable (xs.map g) := by
  intro v hv; obtain ⟨x, _, rfl⟩ := List.mem_map.1 hv; exact h x
theorem Stride_nil (n : Nat) : Stride n [] := by simp [Stride]
theorem Stride_cons (n : Nat) (v : V) (vs : List V) : Stride n (v :: vs) = (v.cells.length = n ∧ Stride n vs) := by simp [Stride]
theorem Stride_map {α : Type} {n : Nat} (g : α → V) (xs : List α) (h : ∀ x, (g x).cells.length = n) : Stride n (xs.map g) := by
  intro v hv; obtain ⟨x, _, rfl⟩ := List.mem_map.1 hv; exact h x
theorem dataL_map {α : Type} (g : α → V) (xs : List α) (h : ∀ x, (g x).data = true) : V.dataL (xs.map g) = true := by
  rw [V.dataL_iff]; intro v hv; obtain ⟨x, _, rfl⟩ := List.mem_map.1 hv; exact h x
theorem getD_map {α : Type} [Inhabited α] (g : α → V) (xs : List α) (i : Nat) (d : V) (h : i < xs.length) : (xs.map g).getD i d = g (xs.getD i default) := by
  simp [List.getD_eq_getElem?_getD, h]
end Go.AM
