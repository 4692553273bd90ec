/- The abstract machine: facts of types as classes; what the walk's steps look for; returns of one, two, three values. -/
import Derived.Test.YtmhnmookgbmmbaaSu
set_option linter.unusedVariables false
set_option linter.unusedSimpArgs false
namespace Go.AM
open V (Le LeL)

class TyF (P : Program) (t : TypeId) (a : outParam Bool) (n : outParam Nat) : Prop where h : tyv P t = some (a, n)
class UnF (P : Program) (t : TypeId) (u : outParam TypeDesc) : Prop where h : P.underlying t = some u
class SlF (P : Program) (t : TypeId) (e : outParam TypeId) (n b : outParam Nat) : Prop where h : slv P t = some (e, n, b)
class SlN (P : Program) (t : TypeId) : Prop where h : slv P t = none
class ArF (P : Program) (t : TypeId) (n : outParam Nat) (a : outParam Bool) (s : outParam Nat) : Prop where h : arv P t = some (n, a, s)
class FlF (P : Program) (t : TypeId) (j : Nat) (o : outParam Nat) (a : outParam Bool) (n : outParam Nat) : Prop where h : fldv P t j = some (o, a, n)
class PlF (P : Program) (t : TypeId) (l : outParam (List (Nat × Nat))) : Prop where h : places P t = some l
class ZvF (P : Program) (t : TypeId) (z : outParam V) : Prop where h : zv P t = some z
class ZoF (P : Program) (t : TypeId) (n : outParam Nat) : Prop where h : zok P t n
class MpF (P : Program) (t : TypeId) (k : outParam TypeDesc) (e : outParam TypeId) : Prop where h : mpv P t = some (k, e)
class EqF (P : Program) (t : TypeId) (z : outParam (List V)) : Prop where h : eqlT P t z
class HbF (P : Program) (f : FuncId) : Prop where h : hasBody P f
theorem SlF.s {P : Program} {t e : TypeId} {n b : Nat} [h : SlF P t e n b] : (slv P t).isSome = true := by rw [h.h]; rfl
structure Hold (q : Prop) : Prop where
  h : q
section
variable {P : Program} {rest : List Oper} {A : Array Oper} {s : St} {K1 : St → Prop} {d : Option Tmp} {t : TypeId} {pos : String} {af : Array Edge} {g : Nat × Bool}
theorem r_at (op : Op) (h : evalR P A (⟨d, op, t, pos, af, none⟩ :: rest) s K1) : evalR P A (⟨d, op, t, pos, af, none⟩ :: rest) s K1 := h
theorem d_at (op : Op) (h : evalD P A (⟨d, op, t, pos, af, none⟩ :: rest) s K1) : evalD P A (⟨d, op, t, pos, af, none⟩ :: rest) s K1 := h
theorem r_gd {op : Op} (h : evalR P A (⟨d, op, t, pos, af, some g⟩ :: rest) s K1) : evalR P A (⟨d, op, t, pos, af, some g⟩ :: rest) s K1 := h
theorem d_gd {op : Op} (h : evalD P A (⟨d, op, t, pos, af, some g⟩ :: rest) s K1) : evalD P A (⟨d, op, t, pos, af, some g⟩ :: rest) s K1 := h
theorem r_is {l : List Oper} (h : evalR P A l s K1) : evalR P A l s K1 := h
theorem d_is {l : List Oper} (h : evalD P A l s K1) : evalD P A l s K1 := h
end
section
variable {P : Program} {rest : List Oper} {A : Array Oper} {H : Heap} {slots : List V} {K1 : St → Prop} {D : Tmp} {t T te : TypeId} {pos : String} {af : Array Edge}
/-- A new map whose elements have this zero. -/
theorem r_makeMapZ {β : Type} (g : β → V) {z : V} (hm : mpv P T = some (.int .i64, te)) (hz : zv P te = some z) (hf : look H D = none) (h : evalR P A rest ⟨slots.set D (.mp D), (D, mapO g []) :: H⟩ K1) : evalR P A (⟨some D, .makeMap T none, t, pos, af, none⟩ :: rest) ⟨slots, H⟩ K1 := r_makeMap g hm hf h
end
section
variable {P : Program} {f : FuncId} {k : List Item} {s : St} {fn : Func} {r : V}
theorem Runs.ret1 {i : Tmp} {u : V} (hf : P.funcs[f]? = some fn) (hr : fn.results.toList = [.tmp i]) (hu : s.slots.getD i .any = u) (hd : r.data = true) (h : Le u r) : Runs P f (fun r' H' => r' = r ∧ H' = []) (.code .ret :: k) s :=
  Runs.ret_fn hf (by rw [hr]; exact ⟨hu ▸ h, hd⟩)
theorem Runs.ret2 {i j : Tmp} {u v : V} (hf : P.funcs[f]? = some fn) (hr : fn.results.toList = [.tmp i, .tmp j]) (hu : s.slots.getD i .any = u) (hv : s.slots.getD j .any = v) (hd : r.data = true) (h : Le (.tup [u, v]) r) : Runs P f (fun r' H' => r' = r ∧ H' = []) (.code .ret :: k) s :=
  Runs.ret_fn hf (by rw [hr]; exact ⟨hu ▸ hv ▸ h, hd⟩)
theorem Runs.ret3 {i j l : Tmp} {u v w : V} (hf : P.funcs[f]? = some fn) (hr : fn.results.toList = [.tmp i, .tmp j, .tmp l]) (hu : s.slots.getD i .any = u) (hv : s.slots.getD j .any = v) (hw : s.slots.getD l .any = w) (hd : r.data = true) (h : Le (.tup [u, v, w]) r) : Runs P f (fun r' H' => r' = r ∧ H' = []) (.code .ret :: k) s :=
  Runs.ret_fn hf (by rw [hr]; exact ⟨hu ▸ hv ▸ hw ▸ h, hd⟩)
end
/-- What a simplification has made of a premise. -/
theorem pre_of {a b p : Prop} (e : a = b) (k : b → p) : a → p := fun h => k (e ▸ h)
end Go.AM
