/- The abstract machine: rows that become lists again; elements of rows are written. -/
import Derived.Test.YtndpgjcmmjeoiaaGreatMj
import Derived.Test.YtndpgjcmmjeoiaaGreatMg
set_option linter.unusedVariables false
set_option linter.unusedSimpArgs false
namespace Go.AM
open V (Le LeL)
theorem St.Le.shutRow {s : St} (d j : Nat) {t : TypeId} {sz n : Nat} {es : List V} (hl : look s.heap d = some (.row t sz es)) (hn : es.length = n) (hj : s.slots.getD j .any = .vw d 0 n n) (hjl : j < s.slots.length) : s.Le ⟨(V.killL d s.slots).set j (.own d), updK d (.lst t sz es) s.heap⟩ := by
  intro w0 O M loc xs w S
  have hv := S.vals.2 j hjl
  rw [hj] at hv
  obtain ⟨g, arr, ex, el, hg, hsz, hmx, ⟨hz, hdes⟩, hlc, hfx⟩ := vw_at S hv hl
  subst hn
  rw [Nat.zero_mul] at ex
  have hal : arr.toList.length = es.length * sz := by rw [Array.length_toList, hsz]
  obtain ⟨k1, k2⟩ := S.renew d _ (.lst t sz es) hl (Ext.refl w _) (xs.getD j undef) (fun b hb => .inr (by rw [ex] at hb; rw [el]; simpa [blk] using hb)) (fun hrel => by
    refine ⟨⟨hz, hdes⟩, arr.toList, ?_, ?_⟩
    · show World.ownsRow _ 0 t sz (if d = d then _ else loc d) _ _
      rw [if_pos rfl]
      refine ⟨by rw [hal], .inr ⟨g, es.length, arr, ex, Nat.zero_le _, hg, Nat.le_refl _, hmx, hsz, ?_⟩⟩
      rw [List.take_of_length_le (by rw [hal]; exact Nat.le_refl _)]
    · exact ⟨hfx.1, fun i j hi hj => hrel _ _ (V.data_getD_cells hdes i j) (hfx.2 i j hi hj)⟩)
  refine ⟨fun k => if k = d then xs.getD j undef else loc k, ?_⟩
  have hr := Rel.own (E := env w O (updK d (.lst t sz es) s.heap) (fun k => if k = d then xs.getD j undef else loc k)) d (.lst t sz es) (by show look (updK d (.lst t sz es) s.heap) d = _; rw [look_updK, if_pos rfl, hl]; rfl) rfl ⟨_, _, _, by show (if d = d then _ else _) = _; rw [if_pos rfl]; exact ex⟩
  have e : (env w O (updK d (.lst t sz es) s.heap) (fun k => if k = d then xs.getD j undef else loc k)).loc d = xs.getD j undef := if_pos rfl
  rw [e] at hr
  have k3 := k1.put j hr
  rw [set_self (by rw [S.vals.1]; exact hjl)] at k3
  exact k3
section
variable {P : Program} {rest : List Oper} {A : Array Oper} {H : Heap} {slots : List V} {K1 : St → Prop} {t T T' : TypeId} {pos : String} {af : Array Edge} {n id i s' : Nat}
theorem r_storeRow {a x : Operand} {ag : Bool} {es es' : List V} {x' : V} (ht : tyv P T = some (ag, n)) (ha : ev slots a = .ptr id i 0) (ho : look H id = some (.row T' s' es)) (hx : ev slots x = x') (hi : i < es.length) (hc : (es.getD i .any).cells.length = n ∧ 0 < n ∧ x'.cells.length = n ∧ x'.okCells = true ∧ x'.data = true) (hs : splice (es.getD i .any) 0 x'.cells = x') (he : es.set i x' = es')
    (h : evalR P A rest ⟨slots, upd H id (.row T' s' es')⟩ K1) : evalR P A (⟨none, .store T a x, t, pos, af, none⟩ :: rest) ⟨slots, H⟩ K1 := by
  subst he
  subst hx
  refine r_store ht ha ho ⟨by simpa [Obj.len] using hi, by simp only [Obj.elem]; omega, hc.2.1, hc.2.2.1, hc.2.2.2.1, .inr hc.2.2.2.2⟩ ?_
  simp only [Obj.wr, hs]
  exact h
end
def put : List V → Nat → List V → List V
  | cs, 0, [] => cs
  | _ :: cs, 0, v :: vs => v :: put cs 0 vs
  | [], _, _ => []
  | c :: cs, n + 1, vs => c :: put cs n vs
theorem put_eq : ∀ (cs : List V) (n : Nat) (vs : List V), n + vs.length ≤ cs.length → put cs n vs = cs.take n ++ vs ++ cs.drop (n + vs.length)
  | cs, 0, [], _ => by cases cs <;> simp [put]
  | c :: cs, 0, v :: vs, h => by
    have := put_eq cs 0 vs (by simp at h ⊢; omega)
    rw [put, this]; simp
  | [], 0, v :: vs, h => by simp at h
  | [], n + 1, vs, h => by simp at h
  | c :: cs, n + 1, vs, h => by
    have := put_eq cs n vs (by simp at h; omega)
    cases vs with
    | nil => rw [put, this]; simp
    | cons v vs => rw [put, this]; simp [show n + 1 + (vs.length + 1) = n + (vs.length + 1) + 1 by omega]
theorem put_len : ∀ (cs : List V) (n : Nat) (vs : List V), n + vs.length ≤ cs.length → (put cs n vs).length = cs.length := fun cs n vs h => by
  rw [put_eq cs n vs h]; simp; omega
def fillP (ps : List (Nat × Nat)) : List V → List (Nat × V) → List V
  | cs, [] => cs
  | cs, (i, v) :: rest => fillP ps (put cs (ps.getD i (0, 0)).1 v.cells) rest
def goodP (ps : List (Nat × Nat)) (n : Nat) : List (Nat × V) → Bool
  | [] => true
  | (i, v) :: rest => Nat.blt i ps.length && (Nat.beq v.cells.length (ps.getD i (0, 0)).2 && (Nat.ble ((ps.getD i (0, 0)).1 + v.cells.length) n && goodP ps n rest))
theorem fillP_eq (ps : List (Nat × Nat)) : ∀ (l : List (Nat × V)) (cs : List V), goodP ps cs.length l = true → fillV (fun i => ps[i]?) cs l = some (fillP ps cs l)
  | [], cs, _ => rfl
  | (i, v) :: rest, cs, h => by
    simp only [goodP, Bool.and_eq_true] at h
    obtain ⟨h1, h2, h3, h4⟩ := h
    have h1 : i < ps.length := by have h1' : Nat.ble (i + 1) ps.length = true := h1; exact Nat.le_of_ble_eq_true h1'
    have h2 := Nat.eq_of_beq_eq_true h2
    have h3 := Nat.le_of_ble_eq_true h3
    have e : ps[i]? = some (ps.getD i (0, 0)) := by rw [List.getElem?_eq_getElem h1, List.getD_eq_getElem?_getD, List.getElem?_eq_getElem h1]; rfl
    rcases hq : ps.getD i (0, 0) with ⟨off, size⟩
    rw [hq] at h2 h3 e
    replace h2 : v.cells.length = size := h2
    replace h3 : off + v.cells.length ≤ cs.length := h3
    have h5 := put_eq cs off v.cells h3
    rw [fillV, e]
    dsimp only
    have hn : ¬ (decide (v.cells.length ≠ size) || decide (off + size > cs.length)) = true := by simp; omega
    rw [if_neg hn, fillP, hq]
    dsimp only
    have := fillP_eq ps rest (put cs off v.cells) (by rw [put_len _ _ _ h3]; exact h4)
    rw [← this, h5, h2]
theorem v_buildP {P : Program} {t : TypeId} {e : Operand → V} {H : Heap} {K : V → Prop} {parts : Array (Nat × Operand)} {ps : List (Nat × Nat)} {z cs : List V} (hp : places P t = some ps) (hz : zv P t = some (.agg z)) (hg : goodP ps z.length (parts.toList.map fun p => (p.1, e p.2)) = true)
    (hok : (parts.toList.all fun p => (e p.2).okCells) = true) (hc : fillP ps z (parts.toList.map fun p => (p.1, e p.2)) = cs) (h : K (.agg cs)) : valK P (.build t parts) e H K :=
  v_build hp hz (by rw [fillP_eq _ _ _ hg, hc]) hok h
end Go.AM
