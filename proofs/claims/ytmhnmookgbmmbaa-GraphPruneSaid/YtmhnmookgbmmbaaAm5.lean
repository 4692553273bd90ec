/- The abstract machine, part 5: 'valK' is sound: the other operations. -/
import Derived.Test.YtmhnmookgbmmbaaAm4
set_option linter.unusedVariables false
set_option linter.unusedSimpArgs false
namespace Go.AM

section
variable {P : Program} {w : World} {O : Nat → Prop} {H : Heap} {loc : Nat → Value}

theorem rel_any {E : Env} {x : Value} : Rel E x .any := .any x

theorem rel_sl_len {E : Env} {x : Value} {full : Bool} {es : List V} (h : Rel E x (.sl full es)) : ∃ a c, x = .slice a es.length c ∧ es.length ≤ c ∧ c ≤ maxLen ∧ (full = true → c = es.length) := by
  cases h with
  | nil _ a c h1 h2 => exact ⟨a, c, rfl, Nat.zero_le _, h2, h1⟩
  | sl _ _ g off c sz f a1 a2 a3 a4 a5 a6 a7 a8 a9 => exact ⟨_, c, rfl, a2, a3, a4⟩

/-- Data read from the element on. -/
theorem rel_sl_elem {E : Env} {x : Value} {full : Bool} {es : List V} (h : Rel E x (.sl full es)) (h0 : es ≠ []) :
    ∃ g off c sz, x = .slice (some ⟨g, off, none⟩) es.length c ∧ es.length ≤ c ∧ c ≤ maxLen ∧ (full = true → c = es.length) ∧ 0 < sz ∧ (∀ i, i < es.length → (es.getD i .any).cells.length = sz) ∧
      (∀ i, i < es.length → Rel E (.pointer (some ⟨g, off + i * sz, none⟩)) (.pt (es.getD i .any))) ∧
      (∀ l n, l + n ≤ es.length → ∀ c', n ≤ c' → c' ≤ maxLen → ∀ full', (full' = true → c' = n) → 0 < n → Rel E (.slice (some ⟨g, off + l * sz, none⟩) n c') (.sl full' ((es.drop l).take n))) := by
  cases h with
  | nil _ a c h1 h2 => exact absurd rfl h0
  | sl _ _ g off c sz f a1 a2 a3 a4 a5 a6 a7 a8 a9 =>
    refine ⟨g, off, c, sz, rfl, a2, a3, a4, a6, a7, fun i hi => ?_, fun l n hln c' hc1 hc2 full' hf hn => ?_⟩
    · have hl := a7 i hi
      refine .pt _ g _ (fun k => f (i * sz + k)) (V.dataL_getD a1 i) a5 (fun k hk => ?_) (fun j hj => a9 i j hi (by omega))
      have hb : i * sz + k < es.length * sz := by
        have : (i + 1) * sz ≤ es.length * sz := Nat.mul_le_mul_right _ hi
        rw [Nat.add_mul] at this; omega
      have := a8 _ hb
      rw [Nat.add_assoc]; exact this
    · have hlen : ((es.drop l).take n).length = n := by simp; omega
      have hget : ∀ i, i < n → ((es.drop l).take n).getD i .any = es.getD (l + i) .any := fun i hi => by
        simp [List.getD_eq_getElem?_getD, List.getElem?_take, List.getElem?_drop, hi]
      have hd : V.dataL ((es.drop l).take n) = true := by
        rw [V.dataL_iff] at a1 ⊢
        exact fun v hv => a1 v (List.mem_of_mem_drop (List.mem_of_mem_take hv))
      have key := Rel.sl (E := E) full' ((es.drop l).take n) g (off + l * sz) c' sz (fun k => f (l * sz + k)) hd (by omega) hc2 (by rw [hlen]; exact hf) a5 a6
        (fun i hi => by rw [hlen] at hi; rw [hget i hi]; exact a7 _ (by omega))
        (fun k hk => by
          rw [hlen] at hk
          have hb : l * sz + k < es.length * sz := by
            have : (l + n) * sz ≤ es.length * sz := Nat.mul_le_mul_right _ hln
            rw [Nat.add_mul] at this; omega
          have := a8 _ hb
          rw [Nat.add_assoc]; exact this)
        (fun i j hi hj => by
          rw [hlen] at hi; rw [hget i hi]
          have := a9 (l + i) j (by omega) hj
          rw [Nat.add_mul, Nat.add_assoc] at this
          exact this)
      rw [hlen] at key
      exact key

theorem Rel.pt_inv {E : Env} {x : Value} {v : V} (h : Rel E x (.pt v)) : ∃ (g off : Nat) (f : Nat → Value), x = .pointer (some ⟨g, off, none⟩) ∧ V.data v = true ∧ E.F g ∧
    (∀ k, k < v.cells.length → E.w.cell? ⟨g, off + k, none⟩ = some (f k)) ∧ (∀ j, j < v.cells.length → Rel E (f j) (v.cells.getD j .any)) := by
  cases h with
  | pt _ g off f a1 a2 a3 a4 => exact ⟨g, off, f, rfl, a1, a2, a3, a4⟩
theorem Rel.ptr_inv {E : Env} {x : Value} {id i fo : Nat} (h : Rel E x (.ptr id i fo)) : ∃ o g, x = .pointer (some ⟨g, i * o.sz + fo, none⟩) ∧ E.obj id = some o ∧ blk (E.loc id) = some g := by
  cases h with
  | ptr _ _ _ o g a1 a2 => exact ⟨o, g, rfl, a1, a2⟩
/-- A pointer to a part of data. -/
theorem rel_pt_sub {E : Env} {v : V} {g o off n : Nat} {ag : Bool} (hr : Rel E (.pointer (some ⟨g, o, none⟩)) (.pt v)) (hl : off + n ≤ v.cells.length) (hfit : V.fits ag n (v.sub ag off n)) :
    Rel E (.pointer (some ⟨g, o + off, none⟩)) (.pt (v.sub ag off n)) := by
  obtain ⟨g', o', fv, hx, a1, a2, a3, a4⟩ := hr.pt_inv
  cases hx
  · have hc := hfit.len
    have hcell : ∀ j, j < n → (v.sub ag off n).cells.getD j .any = v.cells.getD (off + j) .any := by
      intro j hj
      unfold V.sub V.fits at hfit
      unfold V.sub
      cases ag with
      | true => simp [V.cells, List.getD_eq_getElem?_getD, List.getElem?_take, List.getElem?_drop, hj]
      | false =>
        simp only [Bool.false_eq_true, if_false] at hfit ⊢
        obtain ⟨h1, h2⟩ := hfit
        have h3 : j = 0 := by omega
        subst h3
        rw [h2, Nat.add_zero]; rfl
    refine .pt _ g _ (fun k => fv (off + k)) ?_ a2 (fun k hk => ?_) (fun j hj => ?_)
    · unfold V.sub
      cases ag with
      | true =>
        simp only [if_true, V.data]
        have hd := V.data_cells a1
        rw [V.dataL_iff] at hd ⊢
        exact fun u hu => hd u (List.mem_of_mem_drop (List.mem_of_mem_take hu))
      | false => simp only [Bool.false_eq_true, if_false]; exact V.dataL_getD (V.data_cells a1) _
    · rw [hc] at hk; rw [Nat.add_assoc]; exact a3 _ (by omega)
    · rw [hc] at hj; rw [hcell j hj]; exact a4 _ (by omega)

theorem fieldAddr_sound {t : TypeId} {f off n : Nat} {ag : Bool} (hf : fldv P t f = some (off, ag, n)) {x : Value} {p q : V} (hr : Rel (env w O H loc) x p)
    (hq : (∃ v, p = .pt v ∧ off + n ≤ v.cells.length ∧ V.fits ag n (v.sub ag off n) ∧ q = .pt (v.sub ag off n)) ∨ (∃ id i fo, p = .ptr id i fo ∧ q = .ptr id i (fo + off))) :
    ∃ y, (Instr.fieldAt t x f).run P w = .ok y w ∧ Rel (env w O H loc) y q := by
  obtain ⟨fs, fd, hu, hfd, rfl, ht, hn⟩ := fldv_run hf
  obtain ⟨t1, t2⟩ := tyv_run ht w
  have key : ∀ g a, x = .pointer (some ⟨g, a, none⟩) → (Instr.fieldAt t x f).run P w = .ok (.pointer (some ⟨g, a + fd.offset, none⟩)) w := by
    rintro g a rfl
    simp only [Instr.fieldAt, Sem.run_bind, run_underlying hu, Result.andThen_ok, hfd, Instr.sureAddr, Sem.run_pure, fieldPlace, t2]
    rw [if_neg (by omega)]
    simp [addr_add]
  rcases hq with ⟨v, rfl, hl, hfit, rfl⟩ | ⟨id, i, fo, rfl, rfl⟩
  · obtain ⟨g, o, fv, rfl, _⟩ := hr.pt_inv
    exact ⟨_, key g o rfl, rel_pt_sub hr hl hfit⟩
  · obtain ⟨o, g, rfl, a1, a2⟩ := hr.ptr_inv
    refine ⟨_, key g _ rfl, ?_⟩
    rw [Nat.add_assoc]
    exact .ptr id i (fo + fd.offset) o g a1 a2

theorem indexAt_slice_run {t e : TypeId} {sz by_ : Nat} (ht : slv P t = some (e, sz, by_)) {g a n c : Nat} {k : IntKind} {j : Int} (hj : 0 ≤ j ∧ j < n) :
    (Instr.indexAt t (.slice (some ⟨g, a, none⟩) n c) (.int k j)).run P w = .ok (.pointer (some ⟨g, a + j.toNat * sz, none⟩)) w := by
  obtain ⟨hu, i, hi, hs, _⟩ := slv_run ht
  simp [Instr.indexAt, asIntOf, Sem.run_bind, run_underlying hu, hj, sizeOf, typeInfo, hi, hs, addr_add]

theorem blk_own {E : Env} {id : Nat} {t : TypeId} {sz : Nat} {es : List V} (h : ObjOK E id (.lst t sz es)) :
    (∃ g c, E.loc id = .slice (some ⟨g, 0, none⟩) es.length c ∧ es.length ≤ c ∧ c ≤ maxLen) ∨ (E.loc id = .slice none 0 0 ∧ es.length = 0) := by
  obtain ⟨hz, xs, ho, hf⟩ := h
  rcases ho.2 with ⟨e, h0⟩ | ⟨g, cap, cur, e, h1, h2, h3, h4, _⟩
  · exact .inr ⟨e, h0⟩
  · exact .inl ⟨g, cap, e, h3, h4⟩

theorem Rel.own_inv {E : Env} {x : Value} {id : Nat} (h : Rel E x (.own id)) : x = E.loc id ∧ ∃ o, E.obj id = some o ∧ isLst o = true := by
  cases h with
  | own _ o a1 a2 a3 => exact ⟨rfl, o, a1, a2⟩
theorem Rel.vw_inv {E : Env} {x : Value} {id off len cap : Nat} (h : Rel E x (.vw id off len cap)) : ∃ o g, x = .slice (some ⟨g, off * o.sz, none⟩) len cap ∧ E.obj id = some o ∧ isRow o = true ∧ blk (E.loc id) = some g ∧ len ≤ cap := by
  cases h with
  | vw _ _ _ _ o g a1 a2 a3 a4 => exact ⟨o, g, rfl, a1, a2, a3, a4⟩

theorem indexAddr_sound {t : TypeId} {K : V → Prop} {xv yv : Value} {e : Operand → V} {a b : Operand} (h : valK P (.indexAddr t a b) e H K)
    (hx : Rel (env w O H loc) xv (e a)) (hy : Rel (env w O H loc) yv (e b)) (hobj : ∀ id o, look H id = some o → ObjOK (env w O H loc) id o) :
    ∃ z v, (Instr.indexAt t xv yv).run P w = .ok z w ∧ Rel (env w O H loc) z v ∧ K v := by
  simp only [valK] at h
  split at h
  · rename_i te sz by_ ht
    split at h
    · rename_i full es k j ea eb
      obtain ⟨hj, hsz, hK⟩ := h
      rw [ea] at hx; rw [eb] at hy
      cases hy
      have hne : es ≠ [] := by rintro rfl; simp at hj; omega
      obtain ⟨g, off, c, sz', rfl, h1, h2, h3, h4, h5, h6, h7⟩ := rel_sl_elem hx hne
      have hi : j.toNat < es.length := by omega
      have e1 : sz' = sz := by rw [← h5 _ hi]; exact hsz
      subst e1
      exact ⟨_, _, indexAt_slice_run ht hj, h6 _ hi, hK⟩
    · rename_i id k j ea eb
      split at h
      · rename_i t' sz' es ho
        obtain ⟨rfl, hj, hK⟩ := h
        rw [ea] at hx; rw [eb] at hy
        cases hy
        obtain ⟨rfl, _⟩ := hx.own_inv
        rcases blk_own (hobj id _ ho) with ⟨g, c, he, _⟩ | ⟨he, h0⟩
        · rw [he]
          refine ⟨_, _, indexAt_slice_run ht hj, ?_, hK⟩
          have := Rel.ptr (E := env w O H loc) id j.toNat 0 _ g ho (by rw [he]; rfl)
          simpa [Obj.sz] using this
        · omega
      · exact h.elim
    · rename_i id off len cap k j ea eb
      split at h
      · rename_i t' sz' es ho
        obtain ⟨rfl, hj, hK⟩ := h
        rw [ea] at hx; rw [eb] at hy
        cases hy
        obtain ⟨o, g, rfl, a1, a2, a3, a4⟩ := hx.vw_inv
        have : o = .row t' sz' es := by have : look H id = some o := a1; rw [ho] at this; cases this; rfl
        subst this
        refine ⟨_, _, indexAt_slice_run ht hj, ?_, hK⟩
        have := Rel.ptr (E := env w O H loc) id (off + j.toNat) 0 _ g ho a3
        simpa [Obj.sz, Nat.add_mul] using this
      · exact h.elim
    · exact h.elim
  · split at h
    · rename_i n ag sz ht
      obtain ⟨el, hu, he⟩ := arv_run ht
      obtain ⟨t1, t2⟩ := tyv_run he w
      have run : ∀ g o k (j : Int), 2 ≤ n → (0 ≤ j ∧ j < n) → (Instr.indexAt t (.pointer (some ⟨g, o, none⟩)) (.int k j)).run P w = .ok (.pointer (some ⟨g, o + j.toNat * sz, none⟩)) w := by
        intro g o k j h2 hj
        simp [Instr.indexAt, asIntOf, Sem.run_bind, run_underlying hu, Instr.sureAddr, hj, t2, addr_add]
      split at h
      · rename_i id k fo k' j ea eb
        obtain ⟨h2, hj, hK⟩ := h
        rw [ea] at hx; rw [eb] at hy
        cases hy
        obtain ⟨o, g, rfl, a1, a2⟩ := hx.ptr_inv
        refine ⟨_, _, run g _ k' j h2 hj, ?_, hK⟩
        rw [Nat.add_assoc]
        exact .ptr id k _ o g a1 a2
      · rename_i v k' j ea eb
        obtain ⟨h2, hz, hl, hj, hfit, hK⟩ := h
        rw [ea] at hx; rw [eb] at hy
        cases hy
        obtain ⟨g, o, fv, rfl, _⟩ := hx.pt_inv
        refine ⟨_, _, run g _ k' j h2 hj, rel_pt_sub hx ?_ hfit, hK⟩
        have : (j.toNat + 1) * sz ≤ n * sz := Nat.mul_le_mul_right _ (by omega)
        rw [Nat.add_mul] at this; omega
      · exact h.elim
    · exact h.elim
end
end Go.AM
