/- The abstract machine, part 7: the theorem 'val_sound'. -/
import Derived.Test.YtmhnmookgbmmbaaAm6
import Derived.Laws.Tables
set_option linter.unusedVariables false
set_option linter.unusedSimpArgs false
namespace Go.AM

theorem getD_map_lt {α β : Type} {f : α → β} {l : List α} {i : Nat} (h : i < l.length) (d : β) : (l.map f).getD i d = f l[i] := by
  rw [List.getD_eq_getElem?_getD, List.getElem?_map, List.getElem?_eq_getElem h]; rfl
theorem relL_sc {E : Env} (l : List Value) : RelL E l (l.map .sc) := by
  refine ⟨by simp, fun i hi => ?_⟩
  have hi' : i < l.length := by simpa using hi
  rw [getD_map_lt hi', List.getD_eq_getElem?_getD, List.getElem?_eq_getElem hi']; exact .sc _
theorem zv_agg {P : Program} {t : TypeId} {z : List V} (h : zv P t = some (.agg z)) : ∃ i arr, P.info? t = some i ∧ i.zero = some (.agg arr) ∧ z = arr.toList.map .sc := by
  unfold zv at h
  split at h
  · rename_i i hi
    cases hz : i.zero with
    | none => simp [hz] at h
    | some zval =>
      simp only [hz, Option.map_some, Option.some.injEq] at h
      cases zval with
      | agg arr => exact ⟨i, arr, hi, hz, by simpa [ofZero] using h.symm⟩
      | _ => simp [ofZero] at h
  · cases h
theorem zv_rel {P : Program} {t : TypeId} {z : V} (h : zv P t = some z) (E : Env) : ∃ i x, P.info? t = some i ∧ i.zero = some x ∧ Rel E x z := by
  unfold zv at h
  split at h
  · rename_i i hi
    cases hz : i.zero with
    | none => simp [hz] at h
    | some x =>
      simp only [hz, Option.map_some, Option.some.injEq] at h
      subst h
      refine ⟨i, x, hi, hz, ?_⟩
      cases x with
      | agg arr => exact Rel.agg_iff.2 ⟨arr, rfl, relL_sc _⟩
      | _ => exact .sc _
  · cases h

/-- The cells that are put in place. -/
theorem put_cells (off : Nat) : ∀ (vs : List Value) (k : Nat) (cells : Array Value), off + k + vs.length ≤ cells.size →
    (((vs.zipIdx k).foldl (fun cs (x : Value × Nat) => cs.setIfInBounds (off + x.2) x.1) cells).toList = cells.toList.take (off + k) ++ vs ++ cells.toList.drop (off + k + vs.length)) := by
  intro vs
  induction vs with
  | nil => intro k cells h; simp
  | cons v vs ih =>
    intro k cells h
    simp only [List.length_cons] at h ⊢
    rw [List.zipIdx_cons, List.foldl_cons, ih (k + 1) _ (by simp; omega)]
    have hk : off + k < cells.toList.length := by rw [Array.length_toList]; omega
    have hk2 : cells.toList.length = cells.size := Array.length_toList
    simp only [Array.toList_setIfInBounds]
    rw [show off + (k + 1) = off + k + 1 by omega, List.take_set, List.drop_set, if_pos (by omega : off + k < off + k + 1 + vs.length)]
    have e1 : (cells.toList.take (off + k + 1)).set (off + k) v = cells.toList.take (off + k) ++ [v] := by
      have h0 : (cells.toList.take (off + k)).length = off + k := by rw [List.length_take]; omega
      rw [List.take_succ_eq_append_getElem hk, List.set_append_right _ _ (by rw [h0]; omega), h0, Nat.sub_self]
      rfl
    rw [e1]
    simp [Nat.add_assoc, Nat.add_comm 1]

theorem fill_sound {E : Env} (place : Nat → Option (Nat × Nat)) : ∀ (parts : List (Nat × V)) (ps : List (Nat × Value)) (z cs : List V) (arr : Array Value), parts.map (·.1) = ps.map (·.1) →
    (∀ i, i < parts.length → Rel E ((ps.getD i default).2) ((parts.getD i default).2) ∧ ((parts.getD i default).2).okCells = true) → RelL E arr.toList z → fillV place z parts = some cs →
    ∃ res, Instr.fill place arr ps = some res ∧ RelL E res.toList cs
  | [], ps, z, cs, arr, hp, _, hz, h => by
    have : ps = [] := by cases ps <;> simp_all
    subst this
    simp only [fillV, Option.some.injEq] at h
    subst h
    exact ⟨arr, rfl, hz⟩
  | (i, v) :: parts, ps, z, cs, arr, hp, hr, hz, h => by
    obtain ⟨⟨i', x⟩, ps', rfl⟩ : ∃ y ps', ps = y :: ps' := by cases ps with
      | nil => simp at hp
      | cons y ps' => exact ⟨y, ps', rfl⟩
    simp only [List.map_cons, List.cons.injEq] at hp
    obtain ⟨rfl, hp⟩ := hp
    have h0 := hr 0 (by simp)
    simp only [List.getD_cons_zero] at h0
    have hc := h0.1.cells h0.2
    simp only [fillV] at h
    split at h
    · cases h
    · rename_i off size hpl
      split at h
      · cases h
      · rename_i hcond
        simp only [ne_eq, decide_not, Bool.or_eq_true, Bool.not_eq_eq_eq_not, Bool.not_true, decide_eq_false_iff_not, decide_eq_true_eq, not_or, Decidable.not_not, Nat.not_lt] at hcond
        obtain ⟨c1, c2⟩ := hcond
        have hl : x.cells.size = size := by have := hc.1; simp at this; omega
        have hsz : arr.size = z.length := by have := hz.1; simpa using this
        simp only [Instr.fill, hpl]
        rw [if_neg (by simp [hl]; omega)]
        have hput := put_cells off x.cells.toList 0 arr (by simp; omega)
        refine fill_sound place parts ps' _ cs _ hp (fun j hj => by simpa using hr (j + 1) (by simpa using hj)) ?_ h
        have e : (Array.foldl (fun cs (x : Value × Nat) => cs.setIfInBounds (off + x.2) x.1) arr x.cells.zipIdx).toList = arr.toList.take off ++ x.cells.toList ++ arr.toList.drop (off + size) := by
          rw [← Array.foldl_toList, Array.toList_zipIdx]
          simpa [hl] using hput
        rw [e]
        refine ((?_ : RelL E _ _).append hc).append ?_
        · refine ⟨by simp [hsz], fun j hj => ?_⟩
          have hj' : j < off := by simp at hj; omega
          have := hz.2 j (by omega)
          simpa [List.getD_eq_getElem?_getD, List.getElem?_take, hj'] using this
        · refine ⟨by simp [hsz], fun j hj => ?_⟩
          have := hz.2 (off + size + j) (by simp at hj; omega)
          simpa [List.getD_eq_getElem?_getD, List.getElem?_drop] using this

section
variable {P : Program} {w : World} {O : Nat → Prop} {H : Heap} {loc : Nat → Value}

theorem build_sound {e : Operand → V} {ρ : Operand → Value} {K : V → Prop} {t : TypeId} {parts : Array (Nat × Operand)} (h : valK P (.build t parts) e H K)
    (hρ : ∀ x, Rel (env w O H loc) (ρ x) (e x)) : ∃ z v, (Instr.build t (parts.map fun (i, x) => (i, ρ x))).run P w = .ok z w ∧ Rel (env w O H loc) z v ∧ K v := by
  simp only [valK] at h
  split at h
  · rename_i ps z hps hz
    split at h
    · rename_i cs hcs
      obtain ⟨hok, hK⟩ := h
      obtain ⟨i, arr, hi, hzero, rfl⟩ := zv_agg hz
      obtain ⟨res, h1, h2⟩ := fill_sound (E := env w O H loc) ps _ (parts.toList.map fun p => (p.1, ρ p.2)) _ cs arr (by simp) (fun j hj => by
        have hj' : j < parts.toList.length := by simpa using hj
        have e1 : (parts.toList.map fun p => (p.1, ρ p.2)).getD j default = ((parts.toList[j]).1, ρ (parts.toList[j]).2) := getD_map_lt hj' _
        have e2 : (parts.toList.map fun p => (p.1, e p.2)).getD j default = ((parts.toList[j]).1, e (parts.toList[j]).2) := getD_map_lt hj' _
        rw [e1, e2]
        exact ⟨hρ _, List.all_eq_true.1 hok _ (List.getElem_mem hj')⟩) (relL_sc _) hcs
      refine ⟨.agg res, _, run_build w t _ res ?_, Rel.agg_iff.2 ⟨res, rfl, h2⟩, hK⟩
      unfold placeF at hps
      split at hps
      · rename_i fs hu
        cases hpl : places P t with
        | none => rw [hpl] at hps; cases hps
        | some pl =>
          rw [hpl] at hps
          simp only [Option.map_some, Option.some.injEq] at hps
          subst hps
          unfold places at hpl
          rw [hu] at hpl
          simp only [Program.built, hi, hu, hzero, hpl, Value.cells]
          rw [← h1]
          congr 1
          · funext i; simp
          · simp
      · rename_i n te hu
        cases hie : P.info? te with
        | none => rw [hie] at hps; cases hps
        | some f =>
          rw [hie] at hps
          simp only [Option.map_some, Option.some.injEq] at hps
          subst hps
          simp only [Program.built, hi, hu, hzero, hie, Value.cells]
          rw [← h1]
          congr 1
          simp
      · cases hps
    · exact h.elim
  · exact h.elim

/-- A VALUE OPERATION, IN THE MACHINE. -/
theorem val_sound {op : Op} {e : Operand → V} {ρ : Operand → Value} {K : V → Prop} (h : valK P op e H K) {o : Oper} (ho : o.op = op)
    (hρ : ∀ x, Rel (env w O H loc) (ρ x) (e x)) (hobj : ∀ id o, look H id = some o → ObjOK (env w O H loc) id o) :
    ∃ x v, (execOp ρ o).run P w = .ok (.value x) w ∧ Rel (env w O H loc) x v ∧ K v := by
  have lift : ∀ (s : Sem Value), (∃ z v, s.run P w = .ok z w ∧ Rel (env w O H loc) z v ∧ K v) → ∃ x v, (do pure (Next.value (← s)) : Sem Next).run P w = .ok (.value x) w ∧ Rel (env w O H loc) x v ∧ K v := by
    rintro s ⟨z, v, h1, h2, h3⟩
    exact ⟨z, v, by simp [Sem.run_bind, h1], h2, h3⟩
  subst ho
  unfold execOp
  cases hop : o.op <;> rw [hop] at h <;> simp only
  case move x => exact ⟨ρ x, e x, rfl, hρ x, by simpa only [valK] using h⟩
  case assign x => exact ⟨ρ x, e x, rfl, hρ x, by simpa only [valK] using h⟩
  case pick c a b =>
    simp only [valK] at h
    split at h
    · rename_i t hc
      have hx := hρ c
      rw [hc] at hx
      rw [Rel.sc_iff.1 hx]
      cases t
      · exact ⟨ρ b, _, by simp [asBool], hρ b, by simpa using h⟩
      · exact ⟨ρ a, _, by simp [asBool], hρ a, by simpa using h⟩
    · exact h.elim
  case load t x =>
    refine lift _ ?_
    simp only [valK] at h
    split at h
    · rename_i ag n ht
      split at h
      · rename_i v hx
        obtain ⟨h1, h2, h3⟩ := h
        obtain ⟨y, k1, k2⟩ := load_sound ht h2 (.inl ⟨rfl, rfl, h1⟩) (by rw [← hx]; exact hρ x) hobj
        exact ⟨y, _, k1, k2, h3⟩
      · rename_i id i fo hx
        split at h
        · rename_i o' ho'
          obtain ⟨h1, h2, h3, h4⟩ := h
          obtain ⟨y, k1, k2⟩ := load_sound ht h3 (.inr ⟨id, i, o', rfl, ho', h1, rfl, h2⟩) (by rw [← hx]; exact hρ x) hobj
          exact ⟨y, _, k1, k2, h4⟩
        · exact h.elim
      · exact h.elim
    · exact h.elim
  case nilCheck x =>
    have hx := hρ x
    simp only [valK] at h
    split at h
    · rename_i v he
      rw [he] at hx
      obtain ⟨g, off, f, ex, _⟩ := hx.pt_inv
      rw [ex] at hx ⊢
      exact ⟨_, _, rfl, hx, h⟩
    · rename_i id i fo he
      rw [he] at hx
      obtain ⟨o', g, ex, _⟩ := hx.ptr_inv
      rw [ex] at hx ⊢
      exact ⟨_, _, rfl, hx, h⟩
    · exact h.elim
  case binOp op t x y ty => exact lift _ (bin_sound (by simpa only [valK] using h) (hρ x) (hρ y))
  case unOp op t x =>
    refine lift _ ?_
    have hx := hρ x
    simp only [valK, unK] at h
    split at h
    · rename_i b he
      rw [he] at hx; rw [Rel.sc_iff.1 hx]
      exact ⟨_, _, by simp [Op.unary], .sc _, h⟩
    · rename_i k n he
      rw [he] at hx; rw [Rel.sc_iff.1 hx]
      exact ⟨_, _, by simp [Op.unary, Op.intArith], .sc _, h⟩
    · exact h.elim
  case convert src dst x =>
    refine lift _ ?_
    have hx := hρ x
    simp only [valK, convK] at h
    split at h
    · rename_i k n he
      rw [he] at hx; rw [Rel.sc_iff.1 hx]
      split at h
      · rename_i k1 k2 h1 h2
        exact ⟨_, _, by simp [convert, run_underlying h1, run_underlying h2, Conv.intToInt], .sc _, h⟩
      · exact h.elim
    · rename_i s he
      rw [he] at hx; rw [Rel.sc_iff.1 hx]
      split at h
      · rename_i h1 h2
        exact ⟨_, _, by simp [convert, run_underlying h1, run_underlying h2], .sc _, h⟩
      · exact h.elim
    · exact h.elim
  case fieldAddr t x f =>
    refine lift _ ?_
    simp only [valK] at h
    split at h
    · rename_i off ag n hf
      split at h
      · rename_i v hx
        obtain ⟨h1, h2, h3⟩ := h
        obtain ⟨y, k1, k2⟩ := fieldAddr_sound hf (by rw [← hx]; exact hρ x) (.inl ⟨v, rfl, h1, h2, rfl⟩)
        exact ⟨y, _, k1, k2, h3⟩
      · rename_i id i fo hx
        obtain ⟨y, k1, k2⟩ := fieldAddr_sound hf (by rw [← hx]; exact hρ x) (.inr ⟨id, i, fo, rfl, rfl⟩)
        exact ⟨y, _, k1, k2, h⟩
      · exact h.elim
    · exact h.elim
  case field t x f => exact lift _ (field_sound h hρ)
  case indexAddr t x i => exact lift _ (indexAddr_sound h (hρ x) (hρ i) hobj)
  case index t x i => exact lift _ (index_sound h hρ)
  case lookup t x i ok => exact lift _ (lookup_sound h hρ hobj)
  case slice t x lo hi mx => exact lift _ (slice_sound h hρ hobj)
  case build t parts => exact lift _ (build_sound h hρ)
  case extract x n =>
    refine lift _ ?_
    have hx := hρ x
    simp only [valK] at h
    split at h
    · rename_i vs he
      rw [he] at hx
      obtain ⟨arr, ex, hr⟩ := Rel.tup_iff.1 hx
      rw [ex]
      have hlt : n < arr.size := by have := hr.1; simp at this; omega
      refine ⟨arr.getD n undef, _, ?_, rel_getD hr n, h.2⟩
      simp [Instr.extract, Array.getD_eq_getD_getElem?, hlt]
    · exact h.elim
  case makeFunc fn first caps =>
    refine lift _ ?_
    cases fn <;> simp only [valK] at h <;> try exact h.elim
    obtain ⟨rfl, hK⟩ := h
    rename_i fid
    have hr : RelL (env w O H loc) (caps.map ρ).toList (caps.toList.map e) := by
      refine ⟨by simp, fun i hi => ?_⟩
      have hi' : i < caps.toList.length := by simpa using hi
      rw [Array.toList_map, getD_map_lt hi', getD_map_lt hi']; exact hρ _
    refine ⟨.func (.func fid) #[] (caps.map ρ), _, ?_, Rel.fn_iff.2 ⟨_, rfl, hr⟩, hK⟩
    simp [Instr.makeFunc]
  case call c =>
    obtain ⟨callee, args, argTypes⟩ := c
    cases callee with
    | value f => simp only [valK] at h
    | invoke r m => simp only [valK] at h
    | builtin b =>
      have two : ∀ {x y : Operand}, args.toList = [x, y] → args = #[x, y] := fun h => by cases args; simp_all
      have one : ∀ {x : Operand}, args.toList = [x] → args = #[x] := fun h => by cases args; simp_all
      have oneT : ∀ {x : TypeId}, argTypes.toList = [x] → argTypes = #[x] := fun h => by cases argTypes; simp_all
      cases b <;> simp only [valK] at h
      case len =>
        simp only [resolve, invoke, builtin, Sem.run_bind, Sem.run_pure, Result.andThen_ok]
        split at h
        · rename_i x t hx ht
          rw [one hx, oneT ht]
          have hr := hρ x
          simp only [List.map_toArray, List.map_cons, List.map_nil]
          have slice : ∀ a n c, (slv P t).isSome = true → (Builtin.len_ #[t] o.type #[.slice a n c]).run P w = .ok (.int .i64 n) w := by
            intro a n c hs
            obtain ⟨⟨te, sz, by_⟩, ht⟩ := Option.isSome_iff_exists.1 hs
            obtain ⟨hu, _⟩ := slv_run ht
            simp [Builtin.len_, Sem.run_bind, run_underlying hu, goInt]
          split at h
          · rename_i full es he
            rw [he] at hr
            obtain ⟨a, c, ex, _⟩ := rel_sl_len hr
            rw [ex, slice _ _ _ h.1]
            exact ⟨_, _, rfl, .sc _, h.2⟩
          · rename_i id he
            rw [he] at hr
            split at h
            · rename_i t' sz es hl
              obtain ⟨ex, _⟩ := hr.own_inv
              rw [ex]
              rcases blk_own (hobj id _ hl) with ⟨g, c, ex', _⟩ | ⟨ex', h0⟩
              · rw [ex', slice _ _ _ h.1]
                exact ⟨_, _, rfl, .sc _, h.2⟩
              · rw [ex', slice _ _ _ h.1]
                refine ⟨_, _, rfl, ?_, h.2⟩
                rw [h0]; exact .sc _
            · exact h.elim
          · rename_i id off len cap he
            rw [he] at hr
            obtain ⟨o', g, ex, _⟩ := hr.vw_inv
            rw [ex, slice _ _ _ h.1]
            exact ⟨_, _, rfl, .sc _, h.2⟩
          · rename_i s he
            rw [he] at hr; rw [Rel.sc_iff.1 hr]
            refine ⟨_, _, ?_, .sc _, h.2⟩
            simp [Builtin.len_, Sem.run_bind, run_underlying h.1, goInt]
          · rename_i he
            rw [he] at hr; rw [Rel.sc_iff.1 hr, slice _ _ _ h.1]
            exact ⟨_, _, rfl, .sc _, h.2⟩
          · exact h.elim
        · exact h.elim
      case cap =>
        simp only [resolve, invoke, builtin, Sem.run_bind, Sem.run_pure, Result.andThen_ok]
        split at h
        · rename_i x t hx ht
          rw [one hx, oneT ht]
          have hr := hρ x
          simp only [List.map_toArray, List.map_cons, List.map_nil]
          split at h
          · rename_i id off len cap he
            rw [he] at hr
            obtain ⟨o', g, ex, _⟩ := hr.vw_inv
            obtain ⟨⟨te, sz, by_⟩, ht⟩ := Option.isSome_iff_exists.1 h.1
            obtain ⟨hu, _⟩ := slv_run ht
            rw [ex]
            refine ⟨_, _, ?_, .sc _, h.2⟩
            simp [Builtin.cap_, Sem.run_bind, run_underlying hu, goInt]
          · exact h.elim
        · exact h.elim
      case max =>
        simp only [resolve, invoke, builtin, Sem.run_bind, Sem.run_pure, Result.andThen_ok]
        split at h
        · rename_i x y hx
          rw [two hx]
          have h1 := hρ x
          have h2 := hρ y
          simp only [List.map_toArray, List.map_cons, List.map_nil]
          split at h
          · rename_i k a k' b ha hb
            rw [ha] at h1; rw [hb] at h2
            rw [Rel.sc_iff.1 h1, Rel.sc_iff.1 h2, run_max_int2]
            exact ⟨_, _, rfl, .sc _, h⟩
          · exact h.elim
        · exact h.elim
      case min =>
        simp only [resolve, invoke, builtin, Sem.run_bind, Sem.run_pure, Result.andThen_ok]
        split at h
        · rename_i x y hx
          rw [two hx]
          have h1 := hρ x
          have h2 := hρ y
          simp only [List.map_toArray, List.map_cons, List.map_nil]
          split at h
          · rename_i k a k' b ha hb
            rw [ha] at h1; rw [hb] at h2
            rw [Rel.sc_iff.1 h1, Rel.sc_iff.1 h2, run_min_int2]
            exact ⟨_, _, rfl, .sc _, h⟩
          · exact h.elim
        · exact h.elim
  all_goals (simp only [valK] at h)
end
end Go.AM
