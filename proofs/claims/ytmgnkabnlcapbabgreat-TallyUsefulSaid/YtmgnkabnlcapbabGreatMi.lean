/- Arrays of one-cell elements at any index. Own work; imports the kit's laws only. -/
import Derived.Test.YtmgnkabnlcapbabGreatMe
set_option linter.unusedVariables false
set_option linter.unusedSimpArgs false
set_option maxRecDepth 8000
set_option maxHeartbeats 1000000
namespace Go.AM
open V (Le LeL)
theorem v_load_arr {P : Program} {e : Operand → V} {H : Heap} {K : V → Prop} {t T : TypeId} {x : Operand} {id fo k : Nat} {α : Type} [Inhabited α] {g : α → V} {xs : List α} (ht : tyv P t = some (false, 1)) (hx : e x = .ptr id 0 fo) (ho : look H id = some (.var T (.agg (xs.map g)))) (hfo : fo = k) (hk : k < xs.length) (h : K (g (xs.getD k default))) : valK P (.load t x) e H K := by
  subst hfo
  refine v_load_part ht hx ho (by show fo + 1 ≤ (xs.map g).length; rw [List.length_map]; omega) (.inl Nat.one_pos) ?_
  rw [show V.sub false fo 1 (.agg (xs.map g)) = (xs.map g).getD fo .any from rfl, getD_map g xs fo .any hk]
  exact h
theorem arr_wr {α : Type} [Inhabited α] {g : α → V} {T : TypeId} {xs : List α} {k : Nat} (y : α) (hk : k < xs.length) : Obj.wr (.var T (.agg (xs.map g))) 0 k [g y] = .var T (.agg ((xs.set k y).map g)) := by
  show Obj.var T (.agg ((xs.map g).take k ++ [g y] ++ (xs.map g).drop (k + 1))) = _
  rw [List.map_set, List.set_eq_take_append_cons_drop, if_pos (by rw [List.length_map]; exact hk), List.append_assoc]; rfl
theorem r_store_arr {P : Program} {A : Array Oper} {rest : List Oper} {K1 : St → Prop} {slots : List V} {H : Heap} {t T T' : TypeId} {a x : Operand} {pos : String} {af : Array Edge} {id fo k : Nat} {α : Type} [Inhabited α] {g : α → V} {xs : List α} (y : α) (ht : tyv P T = some (false, 1)) (ha : ev slots a = .ptr id 0 fo) (ho : look H id = some (.var T' (.agg (xs.map g)))) (hy : ev slots x = g y) (hc : (g y).cells = [g y] ∧ (g y).okCells = true) (hfo : fo = k) (hk : k < xs.length)
    (h : evalR P A rest ⟨slots, upd H id (.var T' (.agg ((xs.set k y).map g)))⟩ K1) : evalR P A (⟨none, .store T a x, t, pos, af, none⟩ :: rest) ⟨slots, H⟩ K1 := by
  subst hfo
  refine r_store ht ha ho ⟨Nat.one_pos, by show fo + 1 ≤ (xs.map g).length; rw [List.length_map]; omega, Nat.one_pos, by rw [hy, hc.1]; rfl, by rw [hy]; exact hc.2, .inl rfl⟩ ?_
  rw [hy, hc.1, arr_wr y hk]
  exact h
theorem d_store_arr {P : Program} {A : Array Oper} {rest : List Oper} {K1 : St → Prop} {slots : List V} {H : Heap} {t T T' : TypeId} {a x : Operand} {pos : String} {af : Array Edge} {id fo k : Nat} {α : Type} [Inhabited α] {g : α → V} {xs : List α} (y : α) (ht : tyv P T = some (false, 1)) (ha : ev slots a = .ptr id 0 fo) (ho : look H id = some (.var T' (.agg (xs.map g)))) (hy : ev slots x = g y) (hc : (g y).cells = [g y] ∧ (g y).okCells = true) (hfo : fo = k) (hk : k < xs.length)
    (h : evalD P A rest ⟨slots, upd H id (.var T' (.agg ((xs.set k y).map g)))⟩ K1) : evalD P A (⟨none, .store T a x, t, pos, af, none⟩ :: rest) ⟨slots, H⟩ K1 := by
  subst hfo
  refine d_store ht ha ho ⟨Nat.one_pos, by show fo + 1 ≤ (xs.map g).length; rw [List.length_map]; omega, Nat.one_pos, by rw [hy, hc.1]; rfl, by rw [hy]; exact hc.2, .inl rfl⟩ ?_
  rw [hy, hc.1, arr_wr y hk]
  exact h
end Go.AM
