/- The abstract machine: Am7, Am8, Am9, Am10, Am11. Own work; imports the kit's laws only. -/
import Derived.Test.YtndpgjcmmjeoiaaGreatMa
import Derived.Laws.Tables
import Derived.Great.BuildSlice
import Derived.Laws.BytesString
import Derived.Laws.Cells
import Derived.Lib.LazyBuf
set_option linter.unusedVariables false
set_option linter.unusedSimpArgs false
namespace Go.AM
theorem getD_map_lt {α β : Type} {f : α → β} {l : List α} {i : Nat} (h : i < l.length) (d : β) : (l.map f).getD i d = f l[i] := by
  rw [List.getD_eq_getElem?_getD, List.getElem?_map, List.getElem?_eq_getElem h]; rfl
theorem relL_sc {E : Env} (l : List Value) : RelL E l (l.map .sc) := by
  refine ⟨by simp, fun i hi => ?_⟩
  have hi' : i < l.length := by simpa using hi
  rw [getD_map_lt hi', List.getD_eq_getElem?_getD, List.getElem?_eq_getElem hi']; exact .sc _
theorem zv_agg {P : Program} {t : TypeId} {z : List V} (h : zv P t = some (.agg z)) : ∃ i arr, P.info? t = some i ∧ i.zero = some (.agg arr) ∧ z = arr.toList.map .sc := by
  unfold zv at h
  split at h
  · rename_i i hi
    cases hz : i.zero with
    | none => simp [hz] at h
    | some zval =>
      simp only [hz, Option.map_some, Option.some.injEq] at h
      cases zval with
      | agg arr => exact ⟨i, arr, hi, hz, by simpa [ofZero] using h.symm⟩
      | _ => simp [ofZero] at h
  · cases h
theorem zv_rel {P : Program} {t : TypeId} {z : V} (h : zv P t = some z) (E : Env) : ∃ i x, P.info? t = some i ∧ i.zero = some x ∧ Rel E x z := by
  unfold zv at h
  split at h
  · rename_i i hi
    cases hz : i.zero with
    | none => simp [hz] at h
    | some x =>
      simp only [hz, Option.map_some, Option.some.injEq] at h
      subst h
      refine ⟨i, x, hi, hz, ?_⟩
      cases x with
      | agg arr => exact Rel.agg_iff.2 ⟨arr, rfl, relL_sc _⟩
      | _ => exact .sc _
  · cases h
theorem put_cells (off : Nat) : ∀ (vs : List Value) (k : Nat) (cells : Array Value), off + k + vs.length ≤ cells.size →
    (((vs.zipIdx k).foldl (fun cs (x : Value × Nat) => cs.setIfInBounds (off + x.2) x.1) cells).toList = cells.toList.take (off + k) ++ vs ++ cells.toList.drop (off + k + vs.length)) := by
  intro vs
  induction vs with
  | nil => intro k cells h; simp
  | cons v vs ih =>
    intro k cells h
    simp only [List.length_cons] at h ⊢
    rw [List.zipIdx_cons, List.foldl_cons, ih (k + 1) _ (by simp; omega)]
    have hk : off + k < cells.toList.length := by rw [Array.length_toList]; omega
    have hk2 : cells.toList.length = cells.size := Array.length_toList
    simp only [Array.toList_setIfInBounds]
    rw [show off + (k + 1) = off + k + 1 by omega, List.take_set, List.drop_set, if_pos (by omega : off + k < off + k + 1 + vs.length)]
    have e1 : (cells.toList.take (off + k + 1)).set (off + k) v = cells.toList.take (off + k) ++ [v] := by
      have h0 : (cells.toList.take (off + k)).length = off + k := by rw [List.length_take]; omega
      rw [List.take_succ_eq_append_getElem hk, List.set_append_right _ _ (by rw [h0]; omega), h0, Nat.sub_self]
      rfl
    rw [e1]
    simp [Nat.add_assoc, Nat.add_comm 1]
theorem fill_sound {E : Env} (place : Nat → Option (Nat × Nat)) : ∀ (parts : List (Nat × V)) (ps : List (Nat × Value)) (z cs : List V) (arr : Array Value), parts.map (·.1) = ps.map (·.1) →
    (∀ i, i < parts.length → Rel E ((ps.getD i default).2) ((parts.getD i default).2) ∧ ((parts.getD i default).2).okCells = true) → RelL E arr.toList z → fillV place z parts = some cs →
    ∃ res, Instr.fill place arr ps = some res ∧ RelL E res.toList cs
  | [], ps, z, cs, arr, hp, _, hz, h => by
    have : ps = [] := by cases ps <;> simp_all
    subst this
    simp only [fillV, Option.some.injEq] at h
    subst h
    exact ⟨arr, rfl, hz⟩
  | (i, v) :: parts, ps, z, cs, arr, hp, hr, hz, h => by
    obtain ⟨⟨i', x⟩, ps', rfl⟩ : ∃ y ps', ps = y :: ps' := by cases ps with
      | nil => simp at hp
      | cons y ps' => exact ⟨y, ps', rfl⟩
    simp only [List.map_cons, List.cons.injEq] at hp
    obtain ⟨rfl, hp⟩ := hp
    have h0 := hr 0 (by simp)
    simp only [List.getD_cons_zero] at h0
    have hc := h0.1.cells h0.2
    simp only [fillV] at h
    split at h
    · cases h
    · rename_i off size hpl
      split at h
      · cases h
      · rename_i hcond
        simp only [ne_eq, decide_not, Bool.or_eq_true, Bool.not_eq_eq_eq_not, Bool.not_true, decide_eq_false_iff_not, decide_eq_true_eq, not_or, Decidable.not_not, Nat.not_lt] at hcond
        obtain ⟨c1, c2⟩ := hcond
        have hl : x.cells.size = size := by have := hc.1; simp at this; omega
        have hsz : arr.size = z.length := by have := hz.1; simpa using this
        simp only [Instr.fill, hpl]
        rw [if_neg (by simp [hl]; omega)]
        have hput := put_cells off x.cells.toList 0 arr (by simp; omega)
        refine fill_sound place parts ps' _ cs _ hp (fun j hj => by simpa using hr (j + 1) (by simpa using hj)) ?_ h
        have e : (Array.foldl (fun cs (x : Value × Nat) => cs.setIfInBounds (off + x.2) x.1) arr x.cells.zipIdx).toList = arr.toList.take off ++ x.cells.toList ++ arr.toList.drop (off + size) := by
          rw [← Array.foldl_toList, Array.toList_zipIdx]
          simpa [hl] using hput
        rw [e]
        refine ((?_ : RelL E _ _).append hc).append ?_
        · refine ⟨by simp [hsz], fun j hj => ?_⟩
          have hj' : j < off := by simp at hj; omega
          have := hz.2 j (by omega)
          simpa [List.getD_eq_getElem?_getD, List.getElem?_take, hj'] using this
        · refine ⟨by simp [hsz], fun j hj => ?_⟩
          have := hz.2 (off + size + j) (by simp at hj; omega)
          simpa [List.getD_eq_getElem?_getD, List.getElem?_drop] using this
section
variable {P : Program} {w : World} {O : Nat → Prop} {H : Heap} {loc : Nat → Value}
theorem build_sound {e : Operand → V} {ρ : Operand → Value} {K : V → Prop} {t : TypeId} {parts : Array (Nat × Operand)} (h : valK P (.build t parts) e H K)
    (hρ : ∀ x, Rel (env w O H loc) (ρ x) (e x)) : ∃ z v, (Instr.build t (parts.map fun (i, x) => (i, ρ x))).run P w = .ok z w ∧ Rel (env w O H loc) z v ∧ K v := by
  simp only [valK] at h
  split at h
  · rename_i ps z hps hz
    split at h
    · rename_i cs hcs
      obtain ⟨hok, hK⟩ := h
      obtain ⟨i, arr, hi, hzero, rfl⟩ := zv_agg hz
      obtain ⟨res, h1, h2⟩ := fill_sound (E := env w O H loc) ps _ (parts.toList.map fun p => (p.1, ρ p.2)) _ cs arr (by simp) (fun j hj => by
        have hj' : j < parts.toList.length := by simpa using hj
        have e1 : (parts.toList.map fun p => (p.1, ρ p.2)).getD j default = ((parts.toList[j]).1, ρ (parts.toList[j]).2) := getD_map_lt hj' _
        have e2 : (parts.toList.map fun p => (p.1, e p.2)).getD j default = ((parts.toList[j]).1, e (parts.toList[j]).2) := getD_map_lt hj' _
        rw [e1, e2]
        exact ⟨hρ _, List.all_eq_true.1 hok _ (List.getElem_mem hj')⟩) (relL_sc _) hcs
      refine ⟨.agg res, _, run_build w t _ res ?_, Rel.agg_iff.2 ⟨res, rfl, h2⟩, hK⟩
      unfold placeF at hps
      split at hps
      · rename_i fs hu
        cases hpl : places P t with
        | none => rw [hpl] at hps; cases hps
        | some pl =>
          rw [hpl] at hps
          simp only [Option.map_some, Option.some.injEq] at hps
          subst hps
          unfold places at hpl
          rw [hu] at hpl
          simp only [Program.built, hi, hu, hzero, hpl, Value.cells]
          rw [← h1]
          congr 1
          · funext i; simp
          · simp
      · rename_i n te hu
        cases hie : P.info? te with
        | none => rw [hie] at hps; cases hps
        | some f =>
          rw [hie] at hps
          simp only [Option.map_some, Option.some.injEq] at hps
          subst hps
          simp only [Program.built, hi, hu, hzero, hie, Value.cells]
          rw [← h1]
          congr 1
          simp
      · cases hps
    · exact h.elim
  · exact h.elim
theorem conv_bytes {x : Value} {f : Bool} {ns : List Int} {E : Env} (h : Rel E x (.sl f (ns.map fun n => V.sc (.int .u8 n)))) {src dst te : TypeId} (hs : P.underlying src = some (.slice te)) (he : P.underlying te = some (.int .u8)) (hd : P.underlying dst = some .string) :
    (convert src dst x).run P E.w = .ok (.string (bytesS ns)) E.w := by
  generalize hes : (ns.map fun n => V.sc (.int .u8 n)) = es at h
  cases h with
  | nil _ a c h1 h2 =>
    have : ns = [] := List.map_eq_nil_iff.1 hes
    subst this
    rw [run_convert_bytes_string E.w src dst te a 0 c hs he hd]
    cases a with
    | none => rfl
    | some a => exact run_bytesToString E.w a 0 c [] (run_loadCells_list E.w a [] (fun j v hj => by cases j <;> cases hj))
  | sl _ _ g off c sz fc a1 a2 a3 a4 a5 a6 a7 a8 a9 =>
    rw [run_convert_bytes_string E.w src dst te _ _ c hs he hd]
    subst hes
    have hl : (ns.map fun n => V.sc (.int .u8 n)).length = ns.length := List.length_map _
    refine run_bytesToString E.w ⟨g, off, none⟩ _ c ns ?_
    rw [hl, ← List.length_map (f := Value.int .u8) (as := ns)]
    refine run_loadCells_list E.w _ _ fun j v hj => ?_
    obtain ⟨hj2, hv⟩ := List.getElem?_eq_some_iff.1 hj
    rw [List.length_map] at hj2
    rw [List.getElem_map] at hv
    have e1 : (ns.map fun n => V.sc (.int .u8 n)).getD j .any = V.sc (.int .u8 ns[j]) := by
      rw [List.getD_eq_getElem?_getD, List.getElem?_eq_getElem (by rw [hl]; exact hj2), List.getElem_map]; rfl
    have h7 := a7 j (by rw [hl]; exact hj2)
    rw [e1] at h7
    have hz : sz = 1 := h7.symm
    subst hz
    have h8 := a8 j (by rw [hl]; omega)
    have h9 := a9 j 0 (by rw [hl]; exact hj2) (by omega)
    rw [e1] at h9
    have h10 := Rel.sc_iff.1 (show Rel E (fc (j * 1 + 0)) (V.sc (.int .u8 ns[j])) from h9)
    rw [Nat.mul_one, Nat.add_zero] at h10
    rw [h10, hv] at h8
    rw [show (⟨g, off, none⟩ : Addr).add j = ⟨g, off + j, none⟩ by
      simp only [Addr.add]
      split
      · subst_vars; rfl
      · rfl]
    exact h8
theorem val_sound {op : Op} {e : Operand → V} {ρ : Operand → Value} {K : V → Prop} (h : valK P op e H K) {o : Oper} (ho : o.op = op)
    (hρ : ∀ x, Rel (env w O H loc) (ρ x) (e x)) (hobj : ∀ id o, look H id = some o → ObjOK (env w O H loc) id o) :
    ∃ x v, (execOp ρ o).run P w = .ok (.value x) w ∧ Rel (env w O H loc) x v ∧ K v := by
  have lift : ∀ (s : Sem Value), (∃ z v, s.run P w = .ok z w ∧ Rel (env w O H loc) z v ∧ K v) → ∃ x v, (do pure (Next.value (← s)) : Sem Next).run P w = .ok (.value x) w ∧ Rel (env w O H loc) x v ∧ K v := by
    rintro s ⟨z, v, h1, h2, h3⟩
    exact ⟨z, v, by simp [Sem.run_bind, h1], h2, h3⟩
  subst ho
  unfold execOp
  cases hop : o.op <;> rw [hop] at h <;> simp only
  case move x => exact ⟨ρ x, e x, rfl, hρ x, by simpa only [valK] using h⟩
  case assign x => exact ⟨ρ x, e x, rfl, hρ x, by simpa only [valK] using h⟩
  case pick c a b =>
    simp only [valK] at h
    split at h
    · rename_i t hc
      have hx := hρ c
      rw [hc] at hx
      rw [Rel.sc_iff.1 hx]
      cases t
      · exact ⟨ρ b, _, by simp [asBool], hρ b, by simpa using h⟩
      · exact ⟨ρ a, _, by simp [asBool], hρ a, by simpa using h⟩
    · exact h.elim
  case load t x =>
    refine lift _ ?_
    simp only [valK] at h
    split at h
    · rename_i ag n ht
      split at h
      · rename_i v hx
        obtain ⟨h1, h2, h3⟩ := h
        obtain ⟨y, k1, k2⟩ := load_sound ht h2 (.inl ⟨rfl, rfl, h1⟩) (by rw [← hx]; exact hρ x) hobj
        exact ⟨y, _, k1, k2, h3⟩
      · rename_i id i fo hx
        split at h
        · rename_i o' ho'
          obtain ⟨h1, h2, h3, h4⟩ := h
          obtain ⟨y, k1, k2⟩ := load_sound ht h3 (.inr ⟨id, i, o', rfl, ho', h1, rfl, h2⟩) (by rw [← hx]; exact hρ x) hobj
          exact ⟨y, _, k1, k2, h4⟩
        · exact h.elim
      · exact h.elim
    · exact h.elim
  case nilCheck x =>
    have hx := hρ x
    simp only [valK] at h
    split at h
    · rename_i v he
      rw [he] at hx
      obtain ⟨g, off, f, ex, _⟩ := hx.pt_inv
      rw [ex] at hx ⊢
      exact ⟨_, _, rfl, hx, h⟩
    · rename_i id i fo he
      rw [he] at hx
      obtain ⟨o', g, ex, _⟩ := hx.ptr_inv
      rw [ex] at hx ⊢
      exact ⟨_, _, rfl, hx, h⟩
    · exact h.elim
  case binOp op t x y ty => exact lift _ (bin_sound (by simpa only [valK] using h) (hρ x) (hρ y))
  case unOp op t x =>
    refine lift _ ?_
    have hx := hρ x
    simp only [valK, unK] at h
    split at h
    · rename_i b he
      rw [he] at hx; rw [Rel.sc_iff.1 hx]
      exact ⟨_, _, by simp [Op.unary], .sc _, h⟩
    · rename_i k n he
      rw [he] at hx; rw [Rel.sc_iff.1 hx]
      exact ⟨_, _, by simp [Op.unary, Op.intArith], .sc _, h⟩
    · exact h.elim
  case convert src dst x =>
    refine lift _ ?_
    have hx := hρ x
    simp only [valK, convK] at h
    split at h
    · rename_i k n he
      rw [he] at hx; rw [Rel.sc_iff.1 hx]
      split at h
      · rename_i k1 k2 h1 h2
        exact ⟨_, _, by simp [convert, run_underlying h1, run_underlying h2, Conv.intToInt], .sc _, h⟩
      · exact h.elim
    · rename_i s he
      rw [he] at hx; rw [Rel.sc_iff.1 hx]
      split at h
      · rename_i h1 h2
        exact ⟨_, _, by simp [convert, run_underlying h1, run_underlying h2], .sc _, h⟩
      · exact h.elim
    · rename_i f es he
      rw [he] at hx
      obtain ⟨te, ns, h1, h2, h3, rfl, h5⟩ := h
      exact ⟨_, _, conv_bytes hx h1 h2 h3, .sc _, h5⟩
    · exact h.elim
  case fieldAddr t x f =>
    refine lift _ ?_
    simp only [valK] at h
    split at h
    · rename_i off ag n hf
      split at h
      · rename_i v hx
        obtain ⟨h1, h2, h3⟩ := h
        obtain ⟨y, k1, k2⟩ := fieldAddr_sound hf (by rw [← hx]; exact hρ x) (.inl ⟨v, rfl, h1, h2, rfl⟩)
        exact ⟨y, _, k1, k2, h3⟩
      · rename_i id i fo hx
        obtain ⟨y, k1, k2⟩ := fieldAddr_sound hf (by rw [← hx]; exact hρ x) (.inr (.inl ⟨id, i, fo, rfl, rfl⟩))
        exact ⟨y, _, k1, k2, h⟩
      · rename_i g a hx
        obtain ⟨y, k1, k2⟩ := fieldAddr_sound hf (by rw [← hx]; exact hρ x) (.inr (.inr ⟨g, a, rfl, rfl⟩))
        exact ⟨y, _, k1, k2, h⟩
      · exact h.elim
    · exact h.elim
  case field t x f => exact lift _ (field_sound h hρ)
  case indexAddr t x i => exact lift _ (indexAddr_sound h (hρ x) (hρ i) hobj)
  case index t x i => exact lift _ (index_sound h hρ)
  case lookup t x i ok => exact lift _ (lookup_sound h hρ hobj)
  case slice t x lo hi mx => exact lift _ (slice_sound h hρ hobj)
  case build t parts => exact lift _ (build_sound h hρ)
  case extract x n =>
    refine lift _ ?_
    have hx := hρ x
    simp only [valK] at h
    split at h
    · rename_i vs he
      rw [he] at hx
      obtain ⟨arr, ex, hr⟩ := Rel.tup_iff.1 hx
      rw [ex]
      have hlt : n < arr.size := by have := hr.1; simp at this; omega
      refine ⟨arr.getD n undef, _, ?_, rel_getD hr n, h.2⟩
      simp [Instr.extract, Array.getD_eq_getD_getElem?, hlt]
    · exact h.elim
  case makeFunc fn first caps =>
    refine lift _ ?_
    cases fn <;> simp only [valK] at h <;> try exact h.elim
    rename_i fid
    rcases h with ⟨rfl, hK⟩ | ⟨rfl, zs, hz, hK⟩
    · have hr : RelL (env w O H loc) (caps.map ρ).toList (caps.toList.map e) := by
        refine ⟨by simp, fun i hi => ?_⟩
        have hi' : i < caps.toList.length := by simpa using hi
        rw [Array.toList_map, getD_map_lt hi', getD_map_lt hi']; exact hρ _
      refine ⟨.func (.func fid) #[] (caps.map ρ), _, ?_, Rel.fn_iff.2 ⟨_, rfl, hr⟩, hK⟩
      simp [Instr.makeFunc]
    · have hz2 : first.toList.map ρ = zs := by
        have hl : first.toList.length = zs.length := by have := congrArg List.length hz; simpa using this
        refine List.ext_getElem (by simpa using hl) fun i h1 h2 => ?_
        have h3 : i < first.toList.length := by simpa using h1
        have e1 : (first.toList.map e)[i]'(by simpa using h3) = V.sc zs[i] := by
          have := congrArg (fun l => l[i]?) hz
          simp only [List.getElem?_map, List.getElem?_eq_getElem h3, List.getElem?_eq_getElem h2, Option.map_some, Option.some.injEq] at this
          simpa using this
        rw [List.getElem_map] at e1 ⊢
        have := hρ (first.toList[i])
        rw [e1] at this
        exact Rel.sc_iff.1 this
      refine ⟨.func (.func fid) (first.map ρ) #[], _, ?_, ?_, hK⟩
      · simp [Instr.makeFunc]
      · rw [← hz2, ← Array.toList_map, Array.toArray_toList]
        exact Rel.sc _
  case call c =>
    obtain ⟨callee, args, argTypes⟩ := c
    cases callee with
    | value f => simp only [valK] at h
    | invoke r m => simp only [valK] at h
    | builtin b =>
      have two : ∀ {x y : Operand}, args.toList = [x, y] → args = #[x, y] := fun h => by cases args; simp_all
      have one : ∀ {x : Operand}, args.toList = [x] → args = #[x] := fun h => by cases args; simp_all
      have oneT : ∀ {x : TypeId}, argTypes.toList = [x] → argTypes = #[x] := fun h => by cases argTypes; simp_all
      cases b <;> simp only [valK] at h
      case len =>
        simp only [resolve, invoke, builtin, Sem.run_bind, Sem.run_pure, Result.andThen_ok]
        split at h
        · rename_i x t hx ht
          rw [one hx, oneT ht]
          have hr := hρ x
          simp only [List.map_toArray, List.map_cons, List.map_nil]
          have slice : ∀ a n c, (slv P t).isSome = true → (Builtin.len_ #[t] o.type #[.slice a n c]).run P w = .ok (.int .i64 n) w := by
            intro a n c hs
            obtain ⟨⟨te, sz, by_⟩, ht⟩ := Option.isSome_iff_exists.1 hs
            obtain ⟨hu, _⟩ := slv_run ht
            simp [Builtin.len_, Sem.run_bind, run_underlying hu, goInt]
          split at h
          · rename_i full es he
            rw [he] at hr
            obtain ⟨a, c, ex, _⟩ := rel_sl_len hr
            rw [ex, slice _ _ _ h.1]
            exact ⟨_, _, rfl, .sc _, h.2⟩
          · rename_i id he
            rw [he] at hr
            split at h
            · rename_i t' sz es hl
              obtain ⟨ex, _⟩ := hr.own_inv
              rw [ex]
              rcases blk_own (hobj id _ hl) with ⟨g, c, ex', _⟩ | ⟨ex', h0⟩
              · rw [ex', slice _ _ _ h.1]
                exact ⟨_, _, rfl, .sc _, h.2⟩
              · rw [ex', slice _ _ _ h.1]
                refine ⟨_, _, rfl, ?_, h.2⟩
                rw [h0]; exact .sc _
            · exact h.elim
          · rename_i id off len cap he
            rw [he] at hr
            obtain ⟨o', g, ex, _⟩ := hr.vw_inv
            rw [ex, slice _ _ _ h.1]
            exact ⟨_, _, rfl, .sc _, h.2⟩
          · rename_i s he
            rw [he] at hr; rw [Rel.sc_iff.1 hr]
            refine ⟨_, _, ?_, .sc _, h.2⟩
            simp [Builtin.len_, Sem.run_bind, run_underlying h.1, goInt]
          · rename_i he
            rw [he] at hr; rw [Rel.sc_iff.1 hr, slice _ _ _ h.1]
            exact ⟨_, _, rfl, .sc _, h.2⟩
          · exact h.elim
        · exact h.elim
      case cap =>
        simp only [resolve, invoke, builtin, Sem.run_bind, Sem.run_pure, Result.andThen_ok]
        split at h
        · rename_i x t hx ht
          rw [one hx, oneT ht]
          have hr := hρ x
          simp only [List.map_toArray, List.map_cons, List.map_nil]
          split at h
          · rename_i id off len cap he
            rw [he] at hr
            obtain ⟨o', g, ex, _⟩ := hr.vw_inv
            obtain ⟨⟨te, sz, by_⟩, ht⟩ := Option.isSome_iff_exists.1 h.1
            obtain ⟨hu, _⟩ := slv_run ht
            rw [ex]
            refine ⟨_, _, ?_, .sc _, h.2⟩
            simp [Builtin.cap_, Sem.run_bind, run_underlying hu, goInt]
          · rename_i es he
            rw [he] at hr
            obtain ⟨a', c', ex, _, _, hc3⟩ := rel_sl_len hr
            obtain ⟨⟨te, sz, by_⟩, ht⟩ := Option.isSome_iff_exists.1 h.1
            obtain ⟨hu, _⟩ := slv_run ht
            have hc := hc3 rfl
            subst hc
            rw [ex]
            refine ⟨_, _, ?_, .sc _, h.2⟩
            simp [Builtin.cap_, Sem.run_bind, run_underlying hu, goInt]
          · rename_i he
            rw [he] at hr; rw [Rel.sc_iff.1 hr]
            obtain ⟨⟨te, sz, by_⟩, ht⟩ := Option.isSome_iff_exists.1 h.1
            obtain ⟨hu, _⟩ := slv_run ht
            refine ⟨_, _, ?_, .sc _, h.2⟩
            simp [Builtin.cap_, Sem.run_bind, run_underlying hu, goInt]
          · exact h.elim
        · exact h.elim
      case max =>
        simp only [resolve, invoke, builtin, Sem.run_bind, Sem.run_pure, Result.andThen_ok]
        split at h
        · rename_i x y hx
          rw [two hx]
          have h1 := hρ x
          have h2 := hρ y
          simp only [List.map_toArray, List.map_cons, List.map_nil]
          split at h
          · rename_i k a k' b ha hb
            rw [ha] at h1; rw [hb] at h2
            rw [Rel.sc_iff.1 h1, Rel.sc_iff.1 h2, run_max_int2]
            exact ⟨_, _, rfl, .sc _, h⟩
          · exact h.elim
        · exact h.elim
      case min =>
        simp only [resolve, invoke, builtin, Sem.run_bind, Sem.run_pure, Result.andThen_ok]
        split at h
        · rename_i x y hx
          rw [two hx]
          have h1 := hρ x
          have h2 := hρ y
          simp only [List.map_toArray, List.map_cons, List.map_nil]
          split at h
          · rename_i k a k' b ha hb
            rw [ha] at h1; rw [hb] at h2
            rw [Rel.sc_iff.1 h1, Rel.sc_iff.1 h2, run_min_int2]
            exact ⟨_, _, rfl, .sc _, h⟩
          · exact h.elim
        · exact h.elim
  all_goals (simp only [valK] at h)
end
end Go.AM
namespace Go.AM
def Obj.kill (d : Nat) : Obj → Obj
  | .var t v => .var t (v.kill d)
  | .gho x v => .gho x (v.kill d)
  | o => o
def updK (d : Nat) (o : Obj) : Heap → Heap
  | [] => []
  | (k, p) :: H => (if k = d then (d, o) else (k, p.kill d)) :: updK d o H
theorem look_updK (d : Nat) (o : Obj) (H : Heap) (k : Nat) : look (updK d o H) k = if k = d then (look H k).map (fun _ => o) else (look H k).map (Obj.kill d) := by
  induction H with
  | nil => simp [updK, look]
  | cons e H ih =>
    obtain ⟨j, p⟩ := e
    by_cases h : j = d
    · subst h
      by_cases hk : j = k
      · subst hk; simp [updK, look]
      · have hk' : ¬ k = j := fun e => hk e.symm
        simp only [updK, if_true, look]
        rw [if_neg hk, if_neg hk, ih, if_neg hk']
    · by_cases hk : j = k
      · subst hk; simp [updK, look, h]
      · simp only [updK, if_neg h, look]
        rw [if_neg hk, if_neg hk, ih]
theorem Obj.kill_alike (d : Nat) (o : Obj) : (o.kill d).alike o := by cases o <;> simp [Obj.kill, Obj.alike]
theorem getD_mem {l : List V} {v : V} (h : v ∈ l) : ∃ i, i < l.length ∧ l.getD i .any = v := by
  obtain ⟨i, hi, rfl⟩ := List.mem_iff_getElem.1 h
  exact ⟨i, hi, by rw [List.getD_eq_getElem?_getD, List.getElem?_eq_getElem hi]; rfl⟩
theorem rel_data {E : Env} (hE : ∀ id, E.obj id = none) {x : Value} {v : V} (h : Rel E x v) : v.data = true := by
  induction h with
  | sc x => rfl
  | any x => rfl
  | junk x h => rfl
  | agg arr cs h _ ih => simp only [V.data]; rw [V.dataL_iff]; intro v hv; obtain ⟨i, hi, rfl⟩ := getD_mem hv; exact ih i hi
  | tup arr cs h _ ih => simp only [V.data]; rw [V.dataL_iff]; intro v hv; obtain ⟨i, hi, rfl⟩ := getD_mem hv; exact ih i hi
  | nil full a c h1 h2 => rfl
  | sl full es g off c sz f a1 a2 a3 a4 a5 a6 a7 a8 a9 ih => exact a1
  | pt v g off f a1 a2 a3 a4 ih => exact a1
  | fn f arr caps a1 a2 ih => simp only [V.data]; rw [V.dataL_iff]; intro v hv; obtain ⟨i, hi, rfl⟩ := getD_mem hv; exact ih i hi
  | own id o a1 a2 a3 => rw [hE] at a1; cases a1
  | ptr id i fo o g a1 a2 => rw [hE] at a1; cases a1
  | vw id off len cap o g a1 a2 a3 a4 => rw [hE] at a1; cases a1
  | mp id o a1 a2 a3 => rw [hE] at a1; cases a1
  | dnil => rfl
  | dmp ks vs g arr clk a1 a2 a3 a4 a5 a6 a7 ih => exact a1
section
variable {w0 : World} {O M : Nat → Prop} {H : Heap} {loc : Nat → Value} {vs : List V} {xs : List Value} {w : World}
theorem ObjOK.kill {E E' : Env} {id d : Nat} {o : Obj} (h : ObjOK E id o) (hl : E'.loc id = E.loc id) (hb : ∀ b, blk (E.loc id) = some b → E'.w.heap[b]? = E.w.heap[b]?)
    (k : ∀ x v, Rel E x v → Rel E' x (v.kill d)) : ObjOK E' id (o.kill d) := by
  have kd : ∀ x v, v.data = true → Rel E x v → Rel E' x v := fun x v hv hr => by have := k x v hr; rwa [V.kill_data d v hv] at this
  cases o with
  | var t v =>
    obtain ⟨g, arr, e, hg, hr⟩ := h
    refine ⟨g, arr, hl.trans e, by rw [hb g (by rw [e]; rfl)]; exact hg, ?_⟩
    rw [V.cells_kill]
    exact ⟨by rw [V.killL_length]; exact hr.1, fun i hi => by rw [V.killL_getD]; exact k _ _ (hr.2 i (by rwa [V.killL_length] at hi))⟩
  | lst t sz es =>
    obtain ⟨hz, xs, ho, hf⟩ := h
    refine ⟨hz, xs, ?_, hf.1, fun i j hi hj => kd _ _ (V.data_getD_cells hz.2 i j) (hf.2 i j hi hj)⟩
    rw [hl]
    refine ⟨ho.1, ?_⟩
    rcases ho.2 with hn | ⟨g, cap, cur, e, h1, hg, h2⟩
    · exact .inl hn
    · exact .inr ⟨g, cap, cur, e, h1, by rw [hb g (by rw [e]; rfl)]; exact hg, h2⟩
  | row t sz es =>
    obtain ⟨hz, g, arr, e, hg, h1, h2, hf⟩ := h
    exact ⟨hz, g, arr, hl.trans e, by rw [hb g (by rw [e]; rfl)]; exact hg, h1, h2, hf.1, fun i j hi hj => kd _ _ (V.data_getD_cells hz.2 i j) (hf.2 i j hi hj)⟩
  | map ks vs =>
    obtain ⟨g, arr, clk, e, hg, h1, h2, h3, h4⟩ := h
    exact ⟨g, arr, clk, hl.trans e, by rw [hb g (by rw [e]; rfl)]; exact hg, h1, h2, h3, fun i hi => kd _ _ (V.dataL_getD h3 i) (h4 i hi)⟩
  | gho x v => exact ⟨k _ _ h.1, by rw [hl]; exact h.2⟩
theorem SimAt.renew (h : SimAt w0 O M H loc vs xs w) (d : Nat) (o o' : Obj) (ho : look H d = some o) {w' : World} (hw : Ext w (fun b => blk (loc d) = some b) w') (v0 : Value)
    (hb : ∀ b, blk v0 = some b → w.heap.size ≤ b ∨ blk (loc d) = some b)
    (hnew : (∀ x v, v.data = true → Rel (env w O H loc) x v → Rel (env w' O (updK d o' H) (fun k => if k = d then v0 else loc k)) x v) →
      ObjOK (env w' O (updK d o' H) (fun k => if k = d then v0 else loc k)) d o') :
    SimAt w0 O M (updK d o' H) (fun k => if k = d then v0 else loc k) (V.killL d vs) xs w' ∧
      (∀ x v, Rel (env w O H loc) x v → Rel (env w' O (updK d o' H) (fun k => if k = d then v0 else loc k)) x (v.kill d)) := by
  have hds : (look H d).isSome = true := by simp [ho]
  have hs : ∀ id, (look (updK d o' H) id).isSome = (look H id).isSome := by
    intro id; rw [look_updK]; by_cases hk : id = d <;> simp [hk]
  have hF : ∀ b, (env w O H loc).F b → (env w' O (updK d o' H) (fun k => if k = d then v0 else loc k)).F b ∧ w'.heap[b]? = w.heap[b]? := by
    intro b hb'
    refine ⟨⟨Nat.lt_of_lt_of_le hb'.1 hw.size, hb'.2.1, fun id hid he => ?_⟩, hw.block b hb'.1 (hb'.2.2 d hds)⟩
    rw [hs] at hid
    replace he : blk (if id = d then v0 else loc id) = some b := he
    by_cases hk : id = d
    · subst hk
      rw [if_pos rfl] at he
      rcases hb b he with h1 | h1
      · have h2 : b < w.heap.size := hb'.1
        omega
      · exact hb'.2.2 id hds h1
    · rw [if_neg hk] at he
      exact hb'.2.2 id hid he
  have hrel : ∀ x v, Rel (env w O H loc) x v → Rel (env w' O (updK d o' H) (fun k => if k = d then v0 else loc k)) x (v.kill d) := by
    intro x v hr
    refine Rel.kill (E := env w O H loc) (E' := env w' O (updK d o' H) (fun k => if k = d then v0 else loc k)) d hF ?_ hr
    intro id p hk hp
    have hp' : look H id = some p := hp
    refine ⟨p.kill d, ?_, p.kill_alike d, ?_⟩
    · show look (updK d o' H) id = _
      rw [look_updK, if_neg hk, hp']; rfl
    · show (if id = d then v0 else loc id) = loc id
      rw [if_neg hk]
  refine ⟨⟨?_, ?_, ?_, ?_, ?_, h.O_lt⟩, hrel⟩
  · exact ⟨by rw [V.killL_length]; exact h.vals.1, fun i hi => by rw [V.killL_getD]; exact hrel _ _ (h.vals.2 i (by rwa [V.killL_length] at hi))⟩
  · intro id p hp
    rw [look_updK] at hp
    by_cases hk : id = d
    · subst hk; rw [if_pos rfl, ho] at hp; cases hp
      exact hnew (fun x v hv hr => by have := hrel x v hr; rwa [V.kill_data _ v hv] at this)
    · rw [if_neg hk] at hp
      cases hq : look H id with
      | none => rw [hq] at hp; cases hp
      | some q =>
        rw [hq] at hp
        cases hp
        refine (h.objs id q hq).kill ?_ (fun b hb' => hw.block b (h.lt (by simp [hq]) hb') ?_) hrel
        · show (if id = d then v0 else loc id) = loc id
          rw [if_neg hk]
        · intro e
          exact hk (h.dist id d b (by simp [hq]) hds hb' e)
  · intro id id' b h1 h2 h3 h4
    rw [hs] at h1 h2
    replace h3 : blk (if id = d then v0 else loc id) = some b := h3
    replace h4 : blk (if id' = d then v0 else loc id') = some b := h4
    by_cases hk : id = d
    · by_cases hk' : id' = d
      · rw [hk, hk']
      · exfalso
        rw [if_pos hk] at h3
        rw [if_neg hk'] at h4
        rcases hb b h3 with e | e
        · have := h.lt h2 h4; omega
        · exact hk' (h.dist id' d b h2 hds h4 e)
    · rw [if_neg hk] at h3
      by_cases hk' : id' = d
      · exfalso
        rw [if_pos hk'] at h4
        rcases hb b h4 with e | e
        · have := h.lt h1 h3; omega
        · exact hk (h.dist id d b h1 hds h3 e)
      · rw [if_neg hk'] at h4
        exact h.dist id id' b h1 h2 h3 h4
  · intro id b h1 h2
    rw [hs] at h1
    replace h2 : blk (if id = d then v0 else loc id) = some b := h2
    by_cases hk : id = d
    · rw [if_pos hk] at h2
      rcases hb b h2 with e | e
      · exact ⟨fun hO => by have := h.O_lt b hO; have := h.ext.size; omega, .inl (Nat.le_trans h.ext.size e)⟩
      · exact h.own d b hds e
    · rw [if_neg hk] at h2; exact h.own id b h1 h2
  · refine h.ext.trans hw ?_
    intro b hb' hlt
    exact (h.own d b hds hb').2.resolve_left (by omega)
def frzH (d : Nat) (y z : V) : Heap → Heap
  | [] => []
  | (k, p) :: H => if k = d then frzH d y z H else (k, match p with | .var t v => .var t (V.frz d y z v) | .gho x v => .gho x (V.frz d y z v) | q => q) :: frzH d y z H
theorem look_frzH (d : Nat) (y z : V) (H : Heap) (k : Nat) : look (frzH d y z H) k = if k = d then none else (look H k).map (fun p => match p with | .var t v => .var t (V.frz d y z v) | .gho x v => .gho x (V.frz d y z v) | q => q) := by
  induction H with
  | nil => simp [frzH, look]
  | cons e H ih =>
    obtain ⟨j, p⟩ := e
    by_cases h : j = d
    · subst h
      by_cases hk : k = j
      · subst hk; simp [frzH, ih]
      · have hk' : ¬ j = k := fun e => hk e.symm
        simp only [frzH, if_true, look]
        rw [ih, if_neg hk, if_neg hk, if_neg hk']
    · by_cases hk : j = k
      · subst hk; simp [frzH, look, h]
      · simp only [frzH, if_neg h, look]
        rw [if_neg hk, if_neg hk, ih]
theorem SimAt.freeze (h : SimAt w0 O M H loc vs xs w) (d : Nat) (o : Obj) (ho : look H d = some o) (y z : V) (hy1 : y.cells = [y]) (hz1 : z.cells = [z])
    (hown : isLst o = true → Rel (env w O (frzH d y z H) loc) (loc d) y) (hptr : ∀ g, blk (loc d) = some g → Rel (env w O (frzH d y z H) loc) (.pointer (some ⟨g, 0, none⟩)) z) (hmp : isMap o = true → Rel (env w O (frzH d y z H) loc) (loc d) z) :
    SimAt w0 O M (frzH d y z H) loc (V.frzL d y z vs) xs w ∧ (∀ x v, Rel (env w O H loc) x v → Rel (env w O (frzH d y z H) loc) x (V.frz d y z v)) := by
  have hs : ∀ id, id ≠ d → (look (frzH d y z H) id).isSome = (look H id).isSome := by
    intro id hk; rw [look_frzH, if_neg hk]; simp
  have hd0 : look (frzH d y z H) d = none := by rw [look_frzH, if_pos rfl]
  have hF : ∀ b, (env w O H loc).F b → (env w O (frzH d y z H) loc).F b ∧ w.heap[b]? = w.heap[b]? := by
    intro b hb'
    refine ⟨⟨hb'.1, hb'.2.1, fun id hid he => ?_⟩, rfl⟩
    by_cases hk : id = d
    · subst hk; rw [hd0] at hid; cases hid
    · rw [hs id hk] at hid; exact hb'.2.2 id hid he
  have alike : ∀ p : Obj, (match p with | .var t v => Obj.var t (V.frz d y z v) | .gho x v => Obj.gho x (V.frz d y z v) | q => q).alike p := by intro p; cases p <;> simp [Obj.alike]
  have hrel : ∀ x v, Rel (env w O H loc) x v → Rel (env w O (frzH d y z H) loc) x (V.frz d y z v) := by
    intro x v hr
    refine Rel.frz (E := env w O H loc) (E' := env w O (frzH d y z H) loc) d y z hF ?_ ?_ ?_ ?_ hr
    · intro id p hk hp
      have hp' : look H id = some p := hp
      exact ⟨_, by show look (frzH d y z H) id = _; rw [look_frzH, if_neg hk, hp']; rfl, alike p, rfl⟩
    · intro p hp hl; have hp' : look H d = some p := hp; rw [ho] at hp'; cases hp'; exact hown hl
    · intro p g hp hg; exact hptr g hg
    · intro p hp hl; have hp' : look H d = some p := hp; rw [ho] at hp'; cases hp'; exact hmp hl
  have kd : ∀ x v, v.data = true → Rel (env w O H loc) x v → Rel (env w O (frzH d y z H) loc) x v := fun x v hv hr => by have := hrel x v hr; rwa [V.frz_data d y z v hv] at this
  refine ⟨⟨?_, ?_, ?_, ?_, h.ext, h.O_lt⟩, hrel⟩
  · exact ⟨by rw [V.frzL_length]; exact h.vals.1, fun i hi => by rw [V.frzL_getD]; exact hrel _ _ (h.vals.2 i (by rwa [V.frzL_length] at hi))⟩
  · intro id p hp
    rw [look_frzH] at hp
    by_cases hk : id = d
    · rw [if_pos hk] at hp; cases hp
    · rw [if_neg hk] at hp
      cases hq : look H id with
      | none => rw [hq] at hp; cases hp
      | some q =>
        rw [hq] at hp
        cases hp
        have := h.objs id q hq
        cases q with
        | var t v =>
          obtain ⟨g, arr, e, hg, hr⟩ := this
          refine ⟨g, arr, e, hg, ?_⟩
          rw [V.cells_frz d y z v hy1 hz1]
          exact ⟨by rw [V.frzL_length]; exact hr.1, fun i hi => by rw [V.frzL_getD]; exact hrel _ _ (hr.2 i (by rwa [V.frzL_length] at hi))⟩
        | lst t sz es =>
          obtain ⟨hz, xs', ho', hf⟩ := this
          exact ⟨hz, xs', ho', hf.1, fun i j hi hj => kd _ _ (V.data_getD_cells hz.2 i j) (hf.2 i j hi hj)⟩
        | row t sz es =>
          obtain ⟨hz, g, arr, e, hg, h1, h2, hf⟩ := this
          exact ⟨hz, g, arr, e, hg, h1, h2, hf.1, fun i j hi hj => kd _ _ (V.data_getD_cells hz.2 i j) (hf.2 i j hi hj)⟩
        | map ks vs =>
          obtain ⟨g, arr, clk, e, hg, h1, h2, h3, h4⟩ := this
          exact ⟨g, arr, clk, e, hg, h1, h2, h3, fun i hi => kd _ _ (V.dataL_getD h3 i) (h4 i hi)⟩
        | gho x v => exact ⟨hrel _ _ this.1, this.2⟩
  · intro id id' b h1 h2
    have e1 : id ≠ d := by rintro rfl; rw [hd0] at h1; cases h1
    have e2 : id' ≠ d := by rintro rfl; rw [hd0] at h2; cases h2
    rw [hs id e1] at h1; rw [hs id' e2] at h2
    exact h.dist id id' b h1 h2
  · intro id b h1
    have e1 : id ≠ d := by rintro rfl; rw [hd0] at h1; cases h1
    rw [hs id e1] at h1
    exact h.own id b h1
theorem SimAt.freeze_lst (h : SimAt w0 O M H loc vs xs w) (d : Nat) {t : TypeId} {sz : Nat} {es : List V} (ho : look H d = some (.lst t sz es)) :
    SimAt w0 O M (frzH d (.sl false es) .junk H) loc (V.frzL d (.sl false es) .junk vs) xs w ∧
      (∀ x v, Rel (env w O H loc) x v → Rel (env w O (frzH d (.sl false es) .junk H) loc) x (V.frz d (.sl false es) .junk v)) := by
  have hob := h.objs d _ ho
  have hF : ∀ b, (env w O H loc).F b → (env w O (frzH d (.sl false es) .junk H) loc).F b ∧ (env w O (frzH d (.sl false es) .junk H) loc).w.heap[b]? = (env w O H loc).w.heap[b]? := by
    intro b hb'
    refine ⟨⟨hb'.1, hb'.2.1, fun id hid he => ?_⟩, rfl⟩
    rw [look_frzH] at hid
    by_cases hk : id = d
    · rw [if_pos hk] at hid; cases hid
    · rw [if_neg hk] at hid; exact hb'.2.2 id (by simpa using hid) he
  have hFd : ∀ b, blk (loc d) = some b → (env w O (frzH d (.sl false es) .junk H) loc).F b := by
    intro b hb'
    refine ⟨h.lt (by simp [ho]) hb', (h.own d b (by simp [ho]) hb').1, fun id hid he => ?_⟩
    rw [look_frzH] at hid
    by_cases hk : id = d
    · rw [if_pos hk] at hid; cases hid
    · rw [if_neg hk] at hid; exact hk (h.dist id d b (by simpa using hid) (by simp [ho]) he hb')
  refine h.freeze d _ ho _ _ rfl rfl (fun _ => ?_) (fun g hg => .junk _ rfl) (fun hm => by simp [isMap] at hm)
  obtain ⟨⟨hz, hd⟩, xs', hr, hf1, hf2⟩ := hob
  have hr0 := hr
  rcases hr.2 with ⟨e, h0⟩ | ⟨g, cap, cur, e, h1, hg, h2, h3, h4, h5⟩
  · have : es = [] := List.eq_nil_of_length_eq_zero h0
    subst this
    have e' : loc d = .slice none 0 0 := e
    rw [e']
    exact .nil _ _ _ (by simp) (by simp [maxLen])
  · have e' : loc d = .slice (some ⟨g, 0, none⟩) es.length cap := e
    rw [e']
    by_cases h0 : es = []
    · subst h0; exact .nil _ _ _ (by simp) h3
    · refine .sl false es g 0 cap sz (fun k => xs'.getD k undef) hd h2 h3 (by simp) (hFd g (by rw [e']; rfl)) hz hf1 (fun k hk => ?_) (fun i j hi hj => (hf2 i j hi hj).data_mono hF (V.data_getD_cells hd i j))
      have hn : ((env w O H loc).loc d).ownBlock = some g := by show (loc d).ownBlock = some g; rw [e']; rfl
      have hk' : k < xs'.length := by rw [hr0.1]; exact hk
      have := hr0.cells hn k (xs'.getD k undef) (by simp [List.getD_eq_getElem?_getD, List.getElem?_eq_getElem hk'])
      rw [addr_add] at this
      exact this
theorem SimAt.freeze_var (h : SimAt w0 O M H loc vs xs w) (d : Nat) {t : TypeId} {u : V} (ho : look H d = some (.var t u)) (hu : u.data = true) :
    SimAt w0 O M (frzH d .junk (.pt u) H) loc (V.frzL d .junk (.pt u) vs) xs w ∧
      (∀ x v, Rel (env w O H loc) x v → Rel (env w O (frzH d .junk (.pt u) H) loc) x (V.frz d .junk (.pt u) v)) := by
  have hob := h.objs d _ ho
  have hF : ∀ b, (env w O H loc).F b → (env w O (frzH d .junk (.pt u) H) loc).F b ∧ (env w O (frzH d .junk (.pt u) H) loc).w.heap[b]? = (env w O H loc).w.heap[b]? := by
    intro b hb'
    refine ⟨⟨hb'.1, hb'.2.1, fun id hid he => ?_⟩, rfl⟩
    rw [look_frzH] at hid
    by_cases hk : id = d
    · rw [if_pos hk] at hid; cases hid
    · rw [if_neg hk] at hid; exact hb'.2.2 id (by simpa using hid) he
  refine h.freeze d _ ho _ _ rfl rfl (fun hl => by simp [isLst] at hl) (fun g hg => ?_) (fun hm => by simp [isMap] at hm)
  obtain ⟨g', arr, e, hh, hr⟩ := hob
  have e' : loc d = .pointer (some ⟨g', 0, none⟩) := e
  rw [e'] at hg
  simp [blk] at hg
  subst hg
  refine .pt u g' 0 (fun k => arr.getD k undef) hu ⟨(Array.getElem?_eq_some_iff.1 hh).1, (h.own d g' (by simp [ho]) (by rw [e']; rfl)).1, fun id hid he => ?_⟩ (fun k hk => ?_) (fun j hj => ?_)
  · rw [look_frzH] at hid
    by_cases hk : id = d
    · rw [if_pos hk] at hid; cases hid
    · rw [if_neg hk] at hid; exact hk (h.dist id d g' (by simpa using hid) (by simp [ho]) he (by rw [e']; rfl))
  · have hk' : k < arr.size := by have := hr.1; simp at this; omega
    show w.cell? _ = _
    rw [cell_of_row w g' _ arr t (0, 0) hh]
    simp [Array.getD_eq_getD_getElem?, hk']
  · have := (hr.2 j hj).data_mono hF (V.dataL_getD (V.data_cells hu) j)
    simpa [Array.getD_eq_getD_getElem?, List.getD_eq_getElem?_getD] using this
end
end Go.AM
namespace Go.AM
def St.put (s : St) (d : Option Nat) (v : V) : St := match d with
  | some d => ⟨s.slots.set d v, s.heap⟩
  | none => s
def splice (v : V) (fo : Nat) (cs : List V) : V := match v with
  | .agg ds => .agg (ds.take fo ++ cs ++ ds.drop (fo + cs.length))
  | _ => cs.headD .any
def Obj.wr (o : Obj) (i fo : Nat) (cs : List V) : Obj := match o with
  | .var t v => .var t (splice v fo cs)
  | .lst t sz es => .lst t sz (es.set i (splice (es.getD i .any) fo cs))
  | .row t sz es => .row t sz (es.set i (splice (es.getD i .any) fo cs))
  | o => o
def isVar : Obj → Bool | .var .. => true | _ => false
def srcK (P : Program) (t : TypeId) (sz : Nat) (H : Heap) (x : V) (K : List V → Prop) : Prop := match x with
  | .sl _ ns => (slv P t).isSome = true ∧ Stride sz ns ∧ K ns
  | .own id => match look H id with
    | some (.lst _ sz' ns) => (slv P t).isSome = true ∧ sz' = sz ∧ K ns
    | _ => False
  | .sc (.slice none 0 0) => (slv P t).isSome = true ∧ K []
  | _ => False
def zok (P : Program) (te : TypeId) (sz : Nat) : Prop := match zv P te with
  | some z => z.cells.length = sz
  | none => False
def Storable (ns : List V) : Prop := ∀ v ∈ ns, v.okCells = true
def free (s : St) (d : Option Nat) (K : Nat → Prop) : Prop := match d with
  | some d => look s.heap d = none ∧ K d
  | none => False
def mset (ks : List Value) (vs : List V) (k : Value) (x : V) : Option Nat → Obj
  | some i => .map ks (vs.set i x)
  | none => .map (ks ++ [k]) (vs ++ [x])
def mdel (ks : List Value) (vs : List V) : Option Nat → Obj
  | some i => .map (ks.eraseIdx i) (vs.eraseIdx i)
  | none => .map ks vs
def mapWr (P : Program) (s : St) (t : TypeId) (m k : V) (K : Nat → List Value → List V → Value → Option Nat → Prop) : Prop := match mpv P t with
  | some (kd, _) => match m, k with
    | .mp id, .sc kv => match look s.heap id with
      | some (.map ks vs) => match mfind kd kv ks 0 with
        | some r => K id ks vs kv r
        | none => False
      | _ => False
    | _, _ => False
  | none => False
def zeroK (P : Program) (s : St) (d : Option Tmp) (t' te : TypeId) (sz by_ : Nat) (x y : V) (K : V → St → Prop) : Prop :=
  ∃ ik k n z, P.underlying t' = some (.int ik) ∧ y = .sc (.int k n) ∧ x = .sc (.slice none 0 0) ∧ (0 < n ∧ n.toNat * by_ ≤ 140737488355328 ∧ n ≤ 140737488355328 ∧ 0 < sz) ∧ zv P te = some z ∧ (z.cells.length = sz ∧ z.okCells = true) ∧
    free s d fun d => K (.own d) ⟨s.slots, (d, .lst te sz (List.replicate n.toNat z)) :: s.heap⟩
def cutK (P : Program) (s : St) (t : TypeId) (x : V) (lo hi mx : Option V) (K : V → St → Prop) : Prop :=
  ∃ te sz by_ id te' es k l, slv P t = some (te, sz, by_) ∧ lo = none ∧ mx = none ∧ hi = some (.sc (.int k l)) ∧ x = .own id ∧ look s.heap id = some (.lst te' sz es) ∧ (0 ≤ l ∧ l ≤ es.length) ∧
    K (.own id) ⟨V.killL id s.slots, updK id (.lst te' sz (es.take l.toNat)) s.heap⟩
def srcV (P : Program) (t : TypeId) (sz : Nat) (H : Heap) (x : V) (ns : List V) : Prop :=
  (slv P t).isSome = true ∧ ((∃ f, x = .sl f ns ∧ Stride sz ns) ∨ ∃ id off len cap te es, x = .vw id off len cap ∧ look H id = some (.row te sz es) ∧ off + len ≤ es.length ∧ ns = (es.drop off).take len)
def cpD (P : Program) (H : Heap) (t t' : TypeId) (x y : V) (K : V → Heap → Prop) : Prop :=
  ∃ te te' sz by_ id off len cap es ns n, slv P t = some (te, sz, by_) ∧ x = .vw id off len cap ∧ look H id = some (.row te' sz es) ∧ off + len ≤ es.length ∧ srcV P t' sz H y ns ∧ n = min ns.length len ∧ Storable (ns.take n) ∧
    K (.sc (.int .i64 (n : Nat))) (upd H id (.row te' sz (es.take off ++ (ns.take n ++ es.drop (off + n)))))
def cpK (P : Program) (s : St) (t t' : TypeId) (x y : V) (K : V → St → Prop) : Prop := cpD P s.heap t t' x y fun v H' => K v ⟨s.slots, H'⟩
def zapK (P : Program) (s : St) (d : Option Tmp) (t' te : TypeId) (sz by_ : Nat) (x y : V) (K : V → St → Prop) : Prop :=
  ∃ ik k m id off len cap te' es z, P.underlying t' = some (.int ik) ∧ y = .sc (.int k (m : Nat)) ∧ x = .vw id off len cap ∧ look s.heap id = some (.row te' sz es) ∧ off + len ≤ es.length ∧ (0 < m ∧ cap < len + m ∧ (len + m) * by_ ≤ 140737488355328 ∧ len + m ≤ 140737488355328) ∧
    zv P te = some z ∧ (z.cells.length = sz ∧ z.okCells = true) ∧ free s d fun d => ∀ c, len + m ≤ c → K (.vw d 0 (len + m) c) ⟨s.slots, (d, .row te sz ((es.drop off).take len ++ List.replicate (c - len) z)) :: s.heap⟩
def cutNil (P : Program) (s : St) (t : TypeId) (x : V) (lo hi mx : Option V) (K : V → St → Prop) : Prop :=
  ∃ te sz by_ k, slv P t = some (te, sz, by_) ∧ lo = none ∧ mx = none ∧ hi = some (.sc (.int k 0)) ∧ x = .sc (.slice none 0 0) ∧ K (.sc (.slice none 0 0)) s
def opK (P : Program) (o : Oper) (s : St) (K : V → St → Prop) : Prop := match o.op with
  | .slice t a lo hi mx => valK P (.slice t a lo hi mx) (ev s.slots) s.heap (fun v => K v s) ∨ cutK P s t (ev s.slots a) (lo.map (ev s.slots)) (hi.map (ev s.slots)) (mx.map (ev s.slots)) K ∨ cutNil P s t (ev s.slots a) (lo.map (ev s.slots)) (hi.map (ev s.slots)) (mx.map (ev s.slots)) K
  | .makeMap t none => (mpv P t).isSome = true ∧ free s o.dst fun d => K (.mp d) ⟨s.slots, (d, .map [] []) :: s.heap⟩
  | .mapUpdate t m k x => mapWr P s t (ev s.slots m) (ev s.slots k) fun id ks vs kv r => (ev s.slots x).data = true ∧ K .any ⟨s.slots, upd s.heap id (mset ks vs kv (ev s.slots x) r)⟩
  | .insert t m k x => mapWr P s t (ev s.slots m) (ev s.slots k) fun id ks vs kv r => (ev s.slots x).data = true ∧ K .any ⟨s.slots, upd s.heap id (mset ks vs kv (ev s.slots x) r)⟩
  | .call { callee := .builtin .delete, args, argTypes } => match args.toList, argTypes.toList with
    | [m, k], [t, _] => mapWr P s t (ev s.slots m) (ev s.slots k) fun id ks vs _ r => K .any ⟨s.slots, upd s.heap id (mdel ks vs r)⟩
    | _, _ => False
  | .box t x => free s o.dst fun d => (ev s.slots x).okCells = true ∧ K (.ptr d 0 0) ⟨s.slots, (d, .var t (ev s.slots x)) :: s.heap⟩
  | .alloc t => free s o.dst fun d => match zv P t with
    | some z => z.okCells = true ∧ K (.ptr d 0 0) ⟨s.slots, (d, .var t z) :: s.heap⟩
    | none => False
  | .store t a x => match tyv P t with
    | some (_, n) => match ev s.slots a with
      | .ptr id i fo => match look s.heap id with
        | some ob => i < ob.len ∧ fo + n ≤ (ob.elem i).cells.length ∧ 0 < n ∧ (ev s.slots x).cells.length = n ∧ (ev s.slots x).okCells = true ∧ (isVar ob = true ∨ (ev s.slots x).data = true) ∧
            K .any ⟨s.slots, upd s.heap id (ob.wr i fo (ev s.slots x).cells)⟩
        | none => False
      | _ => False
    | none => False
  | .buildSlice t n parts => match slv P t with
    | some (te, sz, _) => 0 < sz ∧ n * sz ≤ 16777216 ∧ zok P te sz ∧ (parts.toList.map (·.1)) = List.range n ∧ V.dataL (parts.toList.map fun p => ev s.slots p.2) = true ∧ Storable (parts.toList.map fun p => ev s.slots p.2) ∧ Stride sz (parts.toList.map fun p => ev s.slots p.2) ∧
        (K (.sl true (parts.toList.map fun p => ev s.slots p.2)) s ∨ (0 < n ∧ free s o.dst fun d => K (.own d) ⟨s.slots, (d, .lst te sz (parts.toList.map fun p => ev s.slots p.2)) :: s.heap⟩))
    | none => False
  | .makeSlice t l c => match slv P t, ev s.slots l, ev s.slots c with
    | some (te, sz, by_), .sc (.int _ n), .sc (.int _ m) => match zv P te with
      | some z => n = m ∧ 0 ≤ n ∧ n.toNat * by_ ≤ 140737488355328 ∧ n ≤ 140737488355328 ∧ 0 < sz ∧ z.cells.length = sz ∧ z.okCells = true ∧ free s o.dst fun d => K (.own d) ⟨s.slots, (d, .lst te sz (List.replicate n.toNat z)) :: s.heap⟩ ∨ K (.vw d 0 n.toNat n.toNat) ⟨s.slots, (d, .row te sz (List.replicate n.toNat z)) :: s.heap⟩
      | none => False
    | _, _, _ => False
  | .call { callee := .builtin .append, args, argTypes } => match args.toList, argTypes.toList with
    | [a, b], [t, t'] => match slv P t with
      | some (te, sz, by_) => (zeroK P s o.dst t' te sz by_ (ev s.slots a) (ev s.slots b) K ∨ zapK P s o.dst t' te sz by_ (ev s.slots a) (ev s.slots b) K) ∨ 0 < sz ∧ zok P te sz ∧ srcK P t' sz s.heap (ev s.slots b) fun ns => Storable ns ∧ match ev s.slots a with
        | .own id => match look s.heap id with
          | some (.lst te' sz' es) => te' = te ∧ sz' = sz ∧ (es.length + ns.length) * by_ ≤ 140737488355328 ∧ es.length + ns.length ≤ 140737488355328 ∧ K (.own id) ⟨V.killL id s.slots, updK id (.lst te sz (es ++ ns)) s.heap⟩
          | _ => False
        | .sl true es => Stride sz es ∧ (es.length + ns.length) * by_ ≤ 140737488355328 ∧ es.length + ns.length ≤ 140737488355328 ∧ (ns = [] → K (.sl true es) s) ∧
            (ns ≠ [] → free s o.dst fun d => K (.own d) ⟨s.slots, (d, .lst te sz (es ++ ns)) :: s.heap⟩)
        | .sc (.slice none 0 0) => ns.length * by_ ≤ 140737488355328 ∧ ns.length ≤ 140737488355328 ∧ free s o.dst fun d => K (.own d) ⟨s.slots, (d, .lst te sz ns) :: s.heap⟩
        | _ => False
      | none => False
    | _, _ => False
  | .call { callee := .builtin .copy, args, argTypes } => match args.toList, argTypes.toList with
    | [a, b], [t, t'] => cpK P s t t' (ev s.slots a) (ev s.slots b) K ∨ match slv P t with
      | some (te, sz, by_) => srcK P t' sz s.heap (ev s.slots b) fun ns => Storable ns ∧ match ev s.slots a with
        | .own id => match look s.heap id with
          | some (.lst te' sz' es) => te' = te ∧ sz' = sz ∧ K (.sc (.int .i64 ((min ns.length es.length : Nat) : Int))) ⟨s.slots, upd s.heap id (.lst te sz (ns.take (min ns.length es.length) ++ es.drop (min ns.length es.length)))⟩
          | _ => False
        | _ => False
      | none => False
    | _, _ => False
  | .binOp .eql t x y ty => match ev s.slots x, ev s.slots y with
    | .sl _ es, .sc (.slice none 0 0) => (slv P t).isSome = true ∧ (es ≠ [] → K (.sc (.bool false)) s) ∧ (es = [] → ∀ b, K (.sc (.bool b)) s)
    | .own id, .sc (.slice none 0 0) => match look s.heap id with
      | some (.lst _ _ es) => (slv P t).isSome = true ∧ (es ≠ [] → K (.sc (.bool false)) s) ∧ (es = [] → ∀ b, K (.sc (.bool b)) s)
      | _ => False
    | .sc (.slice none 0 0), .sc (.slice none 0 0) => (slv P t).isSome = true ∧ K (.sc (.bool true)) s
    | _, _ => valK P (.binOp .eql t x y ty) (ev s.slots) s.heap fun v => K v s
  | op => valK P op (ev s.slots) s.heap fun v => K v s
theorem ev_rel {E : Env} {a : Act} {slots : List V} (h : RelL E a.tmps.toList slots) (x : Operand) : Rel E (a.eval x) (ev slots x) := by
  cases x with
  | tmp t => have := h.getD t; simpa [Act.eval, ev, Array.getD_eq_getD_getElem?, List.getD_eq_getElem?_getD] using this
  | const v => exact .sc v
  | global g => exact .any _
  | func f => exact Rel.fn_iff.2 ⟨#[], rfl, .nil _⟩
section
variable {P : Program} {w0 : World} {O M : Nat → Prop} {s : St} {loc : Nat → Value} {a : Act} {w : World} {o : Oper}
def Steps1 (P : Program) (w0 : World) (O M : Nat → Prop) (a : Act) (w : World) (o : Oper) (K : V → St → Prop) : Prop :=
  ∃ (nx : Next) (w' : World) (v : V) (s' : St) (loc' : Nat → Value), (execOp a.eval o).run P w = .ok nx w' ∧ ((∃ x, nx = .value x ∧ Rel (env w' O s'.heap loc') x v) ∨ (nx = .skip ∧ v = .any)) ∧
    K v s' ∧ SimAt w0 O M s'.heap loc' s'.slots a.tmps.toList w'
theorem Steps1.wp {K : V → St → Prop} (h : Steps1 P w0 O M a w o K) {next : Act → World → Prop} {Q : Exit → Act → World → Prop}
    (hn : ∀ v s' x loc' w', K v s' → SimAt w0 O M s'.heap loc' s'.slots a.tmps.toList w' → Rel (env w' O s'.heap loc') x v → next (a.put o.dst x) w') : o.wp P a w next Q := by
  obtain ⟨nx, w', v, s', loc', h1, h2, h3, h4⟩ := h
  unfold Oper.wp
  rw [h1]
  rcases h2 with ⟨x, rfl, hr⟩ | ⟨rfl, rfl⟩
  · exact hn v s' x loc' w' h3 h4 hr
  · exact hn .any s' undef loc' w' h3 h4 (.any _)
theorem Steps1.val {K : V → St → Prop} {op : Op} (ho : o.op = op) (h : valK P op (ev s.slots) s.heap fun v => K v s) (S : SimAt w0 O M s.heap loc s.slots a.tmps.toList w) : Steps1 P w0 O M a w o K := by
  obtain ⟨x, v, h1, h2, h3⟩ := val_sound h ho (fun y => ev_rel S.vals y) S.objs
  exact ⟨_, w, v, s, loc, h1, .inl ⟨x, rfl, h2⟩, h3, S⟩
theorem run_lift {sem : Sem Value} {x : Value} {w w' : World} (h : sem.run P w = .ok x w') : (do pure (Next.value (← sem)) : Sem Next).run P w = .ok (.value x) w' := by
  simp [Sem.run_bind, h]
theorem new_var (S : SimAt w0 O M s.heap loc s.slots a.tmps.toList w) {d : Nat} (hd : look s.heap d = none) {t : TypeId} {x : Value} {v : V} (hr : Rel (env w O s.heap loc) x v) (hv : v.okCells = true) :
    ∃ loc', SimAt w0 O M ((d, .var t v) :: s.heap) loc' s.slots a.tmps.toList (w.alloc (.cells x.cells t)) ∧
      Rel (env (w.alloc (.cells x.cells t)) O ((d, .var t v) :: s.heap) loc') (.pointer (some ⟨w.heap.size, 0, none⟩)) (.ptr d 0 0) := by
  have hg := Grows.alloc w (.cells x.cells t)
  have hcells := hr.cells hv
  obtain ⟨h1, h2⟩ := S.new d hd hg (.pointer (some ⟨w.heap.size, 0, none⟩)) (.var t v) (by intro b hb; simp [blk] at hb; omega)
    (fun hrel => ⟨w.heap.size, x.cells, by simp [env], heap_alloc_new w _, hcells.imp hrel⟩)
  refine ⟨_, h1, ?_⟩
  have := Rel.ptr (E := env (w.alloc (.cells x.cells t)) O ((d, .var t v) :: s.heap) (fun k => if k = d then .pointer (some ⟨w.heap.size, 0, none⟩) else loc k)) d 0 0 (.var t v) w.heap.size
    (by simp [env, look]) (by simp [env, blk])
  simpa [Obj.sz] using this
theorem free_elim {d : Option Nat} {K : Nat → Prop} (h : free s d K) : ∃ k, d = some k ∧ look s.heap k = none ∧ K k := by
  unfold free at h
  split at h
  · exact ⟨_, rfl, h⟩
  · exact h.elim
theorem op_box {K : V → St → Prop} {t : TypeId} {x : Operand} (ho : o.op = .box t x) (h : opK P o s K) (S : SimAt w0 O M s.heap loc s.slots a.tmps.toList w) : Steps1 P w0 O M a w o K := by
  simp only [opK, ho] at h
  obtain ⟨d, hd, hf, hok, hK⟩ := free_elim h
  obtain ⟨loc', h1, h2⟩ := new_var S hf (t := t) (ev_rel S.vals x) hok
  refine ⟨_, _, _, _, loc', ?_, .inl ⟨_, rfl, h2⟩, hK, h1⟩
  unfold execOp
  simp only [ho]
  refine run_lift ?_
  simp [Instr.box, newVar, newRow]
theorem op_alloc {K : V → St → Prop} {t : TypeId} (ho : o.op = .alloc t) (h : opK P o s K) (S : SimAt w0 O M s.heap loc s.slots a.tmps.toList w) : Steps1 P w0 O M a w o K := by
  simp only [opK, ho] at h
  obtain ⟨d, hd, hf, h⟩ := free_elim h
  split at h
  · rename_i z hz
    obtain ⟨i, x, hi, hx, hr⟩ := zv_rel hz (env w O s.heap loc)
    obtain ⟨loc', h1, h2⟩ := new_var S hf (t := t) hr h.1
    refine ⟨_, _, _, _, loc', ?_, .inl ⟨_, rfl, h2⟩, h.2, h1⟩
    unfold execOp
    simp only [ho]
    refine run_lift ?_
    simp [Instr.alloc, zeroValue, typeInfo, hi, hx, newVar, newRow]
  · exact h.elim
theorem splice_cells {v : V} {fo : Nat} {cs : List V} (h : fo + cs.length ≤ v.cells.length) (h0 : 0 < cs.length) (hc : cs.all V.one = true) :
    (splice v fo cs).cells = v.cells.take fo ++ cs ++ v.cells.drop (fo + cs.length) := by
  unfold splice
  split
  · rfl
  · rename_i hv
    have e : v.cells = [v] := by
      cases v <;> simp_all [V.cells]
    rw [e] at h ⊢
    simp only [List.length_cons, List.length_nil] at h
    have hf : fo = 0 := by omega
    have hl : cs.length = 1 := by omega
    subst hf
    obtain ⟨c, rfl⟩ := List.length_eq_one_iff.1 hl
    simp only [List.all_cons, List.all_nil, Bool.and_true] at hc
    cases c <;> simp_all [V.cells, V.one]
theorem okCells_all {cs : List V} (h : cs.all V.one = true) {E : Env} {xs : List Value} (hr : RelL E xs cs) : ∀ x ∈ xs, x.oneCell' = true := by
  intro x hx
  obtain ⟨i, hi, rfl⟩ := List.mem_iff_getElem.1 hx
  have hi' : i < cs.length := by rw [← hr.1]; exact hi
  have h1 := hr.2 i hi'
  have h2 : V.one (cs.getD i .any) = true := by
    rw [List.getD_eq_getElem?_getD, List.getElem?_eq_getElem hi']
    exact List.all_eq_true.1 h _ (List.getElem_mem hi')
  rw [List.getD_eq_getElem?_getD, List.getElem?_eq_getElem hi] at h1
  simp only [Option.getD_some] at h1
  generalize cs.getD i .any = v at h1 h2
  generalize xs[i] = x at h1
  cases h1 with
  | sc y => simpa [V.one] using h2
  | junk y hy => exact hy
  | any => simp [V.one] at h2
  | agg => simp [V.one] at h2
  | tup => simp [V.one] at h2
  | own id o a1 a2 a3 => obtain ⟨q1, q2, q3, e⟩ := a3; rw [e]; rfl
  | mp id o a1 a2 a3 => obtain ⟨q1, e⟩ := a3; rw [e]; rfl
  | _ => rfl
theorem run_storeVar {t : TypeId} {ag : Bool} {n : Nat} (ht : tyv P t = some (ag, n)) {g off : Nat} {x : Value} (hn : x.cells.size = n) {te : TypeId} {cur : Array Value} (hg : w.heap[g]? = some (.cells cur te (0, 0)))
    (hl : off + n ≤ cur.size) (h1 : ∀ y ∈ x.cells.toList, y.oneCell' = true) :
    (storeVar t ⟨g, off, none⟩ x).run P w = .ok () (w.setRow g (cur.toList.take off ++ x.cells.toList ++ cur.toList.drop (off + n)).toArray) := by
  obtain ⟨_, h2⟩ := tyv_run ht w
  unfold storeVar
  rw [Sem.run_bind, h2]
  simp only [Result.andThen_ok]
  rw [if_neg (by simp [hn]), run_storeCells_at P g off te x.cells.toList 0 cur w hg (by simp; omega) h1]
  simp [hn]
theorem setRow_ext (w : World) (g : Nat) (cs : Array Value) : Ext w (fun b => b = g) (w.setRow g cs) :=
  ⟨rfl, rfl, rfl, by simp, fun b _ hb => setRow_other w g b cs hb⟩
theorem relL_splice {E E' : Env} {xs ys : List Value} {vs us : List V} {fo : Nat} (h : RelL E xs vs) (k : RelL E' ys us) (m : ∀ x v, Rel E x v → Rel E' x v) (hl : fo + us.length ≤ vs.length) :
    RelL E' (xs.take fo ++ ys ++ xs.drop (fo + ys.length)) (vs.take fo ++ us ++ vs.drop (fo + us.length)) := by
  refine (RelL.append ?_ k).append ?_
  · refine ⟨by simp [h.1], fun j hj => ?_⟩
    have hj' : j < fo := by simp at hj; omega
    have := m _ _ (h.2 j (by omega))
    simpa [List.getD_eq_getElem?_getD, List.getElem?_take, hj'] using this
  · rw [k.1]
    refine ⟨by simp [h.1], fun j hj => ?_⟩
    have := m _ _ (h.2 (fo + us.length + j) (by simp at hj; omega))
    simpa [List.getD_eq_getElem?_getD, List.getElem?_drop] using this
theorem getD_take {α : Type} {l : List α} {n i : Nat} (h : i < n) (d : α) : (l.take n).getD i d = l.getD i d := by
  simp [List.getD_eq_getElem?_getD, List.getElem?_take, h]
theorem getD_drop {α : Type} (l : List α) (n i : Nat) (d : α) : (l.drop n).getD i d = l.getD (n + i) d := by
  simp [List.getD_eq_getElem?_getD, List.getElem?_drop]
theorem getD_append_left {α : Type} {l m : List α} {i : Nat} (h : i < l.length) (d : α) : (l ++ m).getD i d = l.getD i d := by
  simp [List.getD_eq_getElem?_getD, List.getElem?_append_left h]
theorem getD_append_right {α : Type} {l m : List α} {i : Nat} (h : l.length ≤ i) (d : α) : (l ++ m).getD i d = m.getD (i - l.length) d := by
  simp [List.getD_eq_getElem?_getD, List.getElem?_append_right h]
theorem getD_set_eq {α : Type} {l : List α} {i : Nat} (h : i < l.length) (x d : α) : (l.set i x).getD i d = x := by
  simp [List.getD_eq_getElem?_getD, h]
theorem getD_set_ne' {α : Type} {l : List α} {i j : Nat} (h : i ≠ j) (x d : α) : (l.set i x).getD j d = l.getD j d := by
  simp [List.getD_eq_getElem?_getD, List.getElem?_set_ne h]
theorem Flat.wr {E E' : Env} {f : Nat → Value} {sz : Nat} {es : List V} (h : Flat E f sz es) (m : ∀ x v, Rel E x v → Rel E' x v) {i fo : Nat} (hi : i < es.length) {us : List V} {ys : List Value} (hy : RelL E' ys us)
    (hl : fo + us.length ≤ sz) (h0 : 0 < us.length) (hok : us.all V.one = true) {f' : Nat → Value}
    (hf1 : ∀ j, j < us.length → f' (i * sz + fo + j) = ys.getD j undef) (hf2 : ∀ k, (k < i * sz + fo ∨ i * sz + fo + us.length ≤ k) → k < es.length * sz → f' k = f k) :
    Flat E' f' sz (es.set i (splice (es.getD i .any) fo us)) := by
  have hlen := h.1 i hi
  have hsp := splice_cells (v := es.getD i .any) (fo := fo) (cs := us) (by omega) h0 hok
  have hmul : ∀ j k, j < k → k ≤ es.length → j * sz + sz ≤ k * sz := fun j k hjk _ => by
    have : (j + 1) * sz ≤ k * sz := Nat.mul_le_mul_right _ hjk
    rw [Nat.add_mul] at this; omega
  refine ⟨fun j hj => ?_, fun j c hj hc => ?_⟩
  · rw [List.length_set] at hj
    by_cases e : i = j
    · subst e; rw [getD_set_eq hi, hsp, List.length_append, List.length_append, List.length_take, List.length_drop]; omega
    · rw [getD_set_ne' e]; exact h.1 j hj
  · rw [List.length_set] at hj
    by_cases e : i = j
    · subst e
      rw [getD_set_eq hi, hsp]
      have hb : i * sz + c < es.length * sz := by have := hmul i es.length hi (Nat.le_refl _); omega
      have e2 : ((es.getD i .any).cells.take fo).length = fo := by rw [List.length_take]; omega
      by_cases c1 : c < fo
      · rw [getD_append_left (by rw [List.length_append, e2]; omega), getD_append_left (by rw [e2]; omega), getD_take c1, hf2 _ (.inl (by omega)) hb]
        exact m _ _ (h.2 i c hi hc)
      · by_cases c2 : c < fo + us.length
        · have e1 : i * sz + c = i * sz + fo + (c - fo) := by omega
          rw [getD_append_left (by rw [List.length_append, e2]; omega), getD_append_right (by rw [e2]; omega), e2, e1, hf1 _ (by omega)]
          exact hy.2 _ (by omega)
        · rw [getD_append_right (by rw [List.length_append, e2]; omega), List.length_append, e2, getD_drop, hf2 _ (.inr (by omega)) hb]
          have := m _ _ (h.2 i c hi hc)
          rwa [show fo + us.length + (c - (fo + us.length)) = c by omega]
    · rw [getD_set_ne' e]
      have hb : j * sz + c < es.length * sz := by have := hmul j es.length hj (Nat.le_refl _); omega
      rw [hf2 _ ?_ hb]
      · exact m _ _ (h.2 j c hj hc)
      · rcases Nat.lt_or_gt_of_ne e with hlt | hgt
        · right; have := hmul i j hlt (by omega); omega
        · left; have := hmul j i hgt (by omega); omega
theorem headD_eq {α : Type} (l : List α) (d : α) : l.headD d = l.getD 0 d := by cases l <;> rfl
theorem op_store {K : V → St → Prop} {t : TypeId} {p x : Operand} (ho : o.op = .store t p x) (h : opK P o s K) (S : SimAt w0 O M s.heap loc s.slots a.tmps.toList w) : Steps1 P w0 O M a w o K := by
  simp only [opK, ho] at h
  split at h
  · rename_i ag n ht
    split at h
    · rename_i id i fo hp
      split at h
      · rename_i ob hob
        obtain ⟨hi, hl, h0, hxl, hxo, hv, hK⟩ := h
        have hx := ev_rel S.vals x
        have hpr := ev_rel S.vals p
        rw [hp] at hpr
        obtain ⟨ob', g, ep, e1, e2⟩ := hpr.ptr_inv
        have : ob' = ob := by have : look s.heap id = some ob' := e1; rw [hob] at this; cases this; rfl
        subst this
        have hc := hx.cells hxo
        have hcl : (a.eval x).cells.size = n := by have := hc.1; simp at this; omega
        have hok : (ev s.slots x).cells.all V.one = true := hxo
        have hone := okCells_all hok hc
        have hdc : (ev s.slots x).data = true → V.dataL (ev s.slots x).cells = true := V.data_cells
        generalize (ev s.slots x).cells = us at *
        have hus : us.length = n := hxl
        have fin : ∀ (te : TypeId) (cur : Array Value), w.heap[g]? = some (.cells cur te (0, 0)) → i * ob'.sz + fo + n ≤ cur.size →
            ((∀ y v, Rel (env w O s.heap loc) y v → Rel (env (w.setRow g (cur.toList.take (i * ob'.sz + fo) ++ (a.eval x).cells.toList ++ cur.toList.drop (i * ob'.sz + fo + n)).toArray) O (upd s.heap id (ob'.wr i fo us)) loc) y v) →
              ObjOK (env (w.setRow g (cur.toList.take (i * ob'.sz + fo) ++ (a.eval x).cells.toList ++ cur.toList.drop (i * ob'.sz + fo + n)).toArray) O (upd s.heap id (ob'.wr i fo us)) loc) id (ob'.wr i fo us)) →
            Steps1 P w0 O M a w o K := by
          intro te cur hg hsz hnew
          have hal : (ob'.wr i fo us).alike ob' := by cases ob' <;> simp [Obj.wr, Obj.alike]
          obtain ⟨h1, h2⟩ := S.write id ob' (ob'.wr i fo us) hob hal e2 (setRow_ext w g _) hnew
          refine ⟨.skip, _, _, _, loc, ?_, .inr ⟨rfl, rfl⟩, hK, h1⟩
          unfold execOp
          simp only [ho, ep, Instr.storeAt, Instr.sureAddr, Sem.run_bind, Sem.run_pure, Result.andThen_ok]
          rw [run_storeVar ht hcl hg hsz hone]
          rfl
        have hobj := S.objs id ob' hob
        have hget : ∀ (cur : List Value) (b : Nat), b + n ≤ cur.length → (∀ j, j < us.length → (cur.take b ++ (a.eval x).cells.toList ++ cur.drop (b + n)).getD (b + j) undef = (a.eval x).cells.toList.getD j undef) ∧
            (∀ k, (k < b ∨ b + us.length ≤ k) → (cur.take b ++ (a.eval x).cells.toList ++ cur.drop (b + n)).getD k undef = cur.getD k undef) := by
          intro cur b hb
          have l1 : (cur.take b).length = b := by rw [List.length_take]; omega
          have l2 : (a.eval x).cells.toList.length = n := by rw [Array.length_toList]; exact hcl
          refine ⟨fun j hj => ?_, fun k hk => ?_⟩
          · rw [getD_append_left (by rw [List.length_append, l1, l2]; omega), getD_append_right (by rw [l1]; omega), l1, show b + j - b = j by omega]
          · rcases hk with hk | hk
            · rw [getD_append_left (by rw [List.length_append, l1, l2]; omega), getD_append_left (by rw [l1]; omega), getD_take hk]
            · rw [getD_append_right (by rw [List.length_append, l1, l2]; omega), List.length_append, l1, l2, getD_drop, show b + n + (k - (b + n)) = k by omega]
        cases ob' with
        | var t' v' =>
          obtain ⟨g', arr, el, hh, hr⟩ := hobj
          have el' : loc id = .pointer (some ⟨g', 0, none⟩) := el
          have e2' : blk (loc id) = some g := e2
          rw [el'] at e2'
          simp [blk] at e2'
          subst e2'
          have hi0 : i = 0 := by simp [Obj.len] at hi; omega
          subst hi0
          have hlen : arr.size = v'.cells.length := by have := hr.1; simpa using this
          simp only [Obj.elem] at hl
          refine fin t' arr hh (by simp [Obj.sz]; omega) (fun hrel => ?_)
          refine ⟨g', _, el', setRow_heap w g' arr _ t' (0, 0) hh, ?_⟩
          have e3 := splice_cells (v := v') (fo := fo) (cs := us) (by omega) (by omega) hok
          show RelL _ _ ((splice v' fo us).cells)
          rw [e3]
          have := relL_splice (fo := fo) hr (hc.imp hrel) hrel (by omega)
          simp only [Obj.sz, Nat.mul_zero, Nat.zero_add]
          rw [show fo + (a.eval x).cells.toList.length = fo + n by simp [hcl]] at this
          simpa using this
        | lst t' sz' es =>
          obtain ⟨⟨hz, hd⟩, xs', hr, hf⟩ := hobj
          have hi' : i < es.length := hi
          have hfi := hf.1 i hi'
          simp only [Obj.elem] at hl
          rcases hr.2 with ⟨e, hz0⟩ | ⟨g', cap, cur, e, h1, hg, h2, h3, h4, h5⟩
          · omega
          · have el' : loc id = .slice (some ⟨g', 0, none⟩) es.length cap := e
            have e2' : blk (loc id) = some g := e2
            rw [el'] at e2'
            simp [blk] at e2'
            subst e2'
            have hmul : i * sz' + sz' ≤ es.length * sz' := by
              have : (i + 1) * sz' ≤ es.length * sz' := Nat.mul_le_mul_right _ hi'
              rw [Nat.add_mul] at this; omega
            have hcap : es.length * sz' ≤ cap * sz' := Nat.mul_le_mul_right _ h2
            have hxs : xs'.length = es.length * sz' := hr.1
            have hdat : V.dataL us = true := by
              rcases hv with hv | hv
              · simp [isVar] at hv
              · exact hdc hv
            refine fin t' cur hg (by simp only [Obj.sz]; omega) (fun hrel => ?_)
            obtain ⟨k1, k2⟩ := hget cur.toList (i * sz' + fo) (by rw [Array.length_toList]; omega)
            have hcur : ∀ k, k < es.length * sz' → cur.toList.getD k undef = xs'.getD k undef := fun k hk => by
              rw [← h5, getD_take hk]
            have hdat' : V.dataL (es.set i (splice (es.getD i .any) fo us)) = true := by
              rw [V.dataL_iff] at hd ⊢
              intro v hv'
              rcases List.mem_or_eq_of_mem_set hv' with hv' | rfl
              · exact hd v hv'
              · have hdi := V.dataL_getD (V.dataL_iff.2 hd) i
                unfold splice
                split
                · rename_i ds hds
                  rw [hds] at hdi
                  simp only [V.data] at hdi ⊢
                  rw [V.dataL_append, V.dataL_append]
                  simp only [Bool.and_eq_true]
                  rw [V.dataL_iff] at hdi
                  exact ⟨⟨V.dataL_iff.2 fun u hu => hdi u (List.mem_of_mem_take hu), hdat⟩, V.dataL_iff.2 fun u hu => hdi u (List.mem_of_mem_drop hu)⟩
                · rw [headD_eq]; exact V.dataL_getD hdat 0
            refine ⟨⟨hz, hdat'⟩, (cur.toList.take (i * sz' + fo) ++ (a.eval x).cells.toList ++ cur.toList.drop (i * sz' + fo + n)).take (es.length * sz'), ?_, ?_⟩
            · have hlen2 : (cur.toList.take (i * sz' + fo) ++ (a.eval x).cells.toList ++ cur.toList.drop (i * sz' + fo + n)).length = cur.size := by
                rw [List.length_append, List.length_append, List.length_take, List.length_drop, Array.length_toList, Array.length_toList]; omega
              refine ⟨by rw [List.length_take, hlen2, List.length_set]; omega, .inr ⟨g', cap, _, ?_, Nat.zero_le _, setRow_heap w g' cur _ t' (0, 0) hg, ?_, h3, ?_, ?_⟩⟩
              · rw [List.length_set]; exact el'
              · rw [List.length_set]; exact h2
              · simp only [Obj.sz, List.size_toArray]; rw [hlen2]; exact h4
              · rw [List.length_set]; rfl
            · refine Flat.wr hf hrel hi' (hc.imp hrel) (by omega) (by omega) hok (fun j hj => ?_) (fun k hk hkb => ?_)
              · rw [getD_take (by omega)]; exact k1 j hj
              · rw [getD_take hkb, k2 k hk, hcur k hkb]
        | row t' sz' es =>
          obtain ⟨⟨hz, hd⟩, g', cur, el, hg, h4, h3, hf⟩ := hobj
          have hi' : i < es.length := hi
          have hfi := hf.1 i hi'
          simp only [Obj.elem] at hl
          have el' : loc id = .slice (some ⟨g', 0, none⟩) es.length es.length := el
          have e2' : blk (loc id) = some g := e2
          rw [el'] at e2'
          simp [blk] at e2'
          subst e2'
          have hmul : i * sz' + sz' ≤ es.length * sz' := by
            have : (i + 1) * sz' ≤ es.length * sz' := Nat.mul_le_mul_right _ hi'
            rw [Nat.add_mul] at this; omega
          have hdat : V.dataL us = true := by
            rcases hv with hv | hv
            · simp [isVar] at hv
            · exact hdc hv
          refine fin t' cur hg (by simp only [Obj.sz]; omega) (fun hrel => ?_)
          obtain ⟨k1, k2⟩ := hget cur.toList (i * sz' + fo) (by rw [Array.length_toList]; omega)
          have hdat' : V.dataL (es.set i (splice (es.getD i .any) fo us)) = true := by
            rw [V.dataL_iff] at hd ⊢
            intro v hv'
            rcases List.mem_or_eq_of_mem_set hv' with hv' | rfl
            · exact hd v hv'
            · have hdi := V.dataL_getD (V.dataL_iff.2 hd) i
              unfold splice
              split
              · rename_i ds hds
                rw [hds] at hdi
                simp only [V.data] at hdi ⊢
                rw [V.dataL_append, V.dataL_append]
                simp only [Bool.and_eq_true]
                rw [V.dataL_iff] at hdi
                exact ⟨⟨V.dataL_iff.2 fun u hu => hdi u (List.mem_of_mem_take hu), hdat⟩, V.dataL_iff.2 fun u hu => hdi u (List.mem_of_mem_drop hu)⟩
              · rw [headD_eq]; exact V.dataL_getD hdat 0
          refine ⟨⟨hz, hdat'⟩, g', _, by rw [List.length_set]; exact el', setRow_heap w g' cur _ t' (0, 0) hg, ?_, by rw [List.length_set]; exact h3, ?_⟩
          · rw [List.length_set, ← h4]
            simp only [Obj.sz, List.size_toArray]
            rw [List.length_append, List.length_append, List.length_take, List.length_drop, Array.length_toList, Array.length_toList]; omega
          · refine Flat.wr hf hrel hi' (hc.imp hrel) (by omega) (by omega) hok (fun j hj => ?_) (fun k hk hkb => ?_)
            · have := k1 j hj
              simpa [Array.getD_eq_getD_getElem?, List.getD_eq_getElem?_getD, Obj.sz] using this
            · have := k2 k hk
              simpa [Array.getD_eq_getD_getElem?, List.getD_eq_getElem?_getD, Obj.sz] using this
        | map ks vs => simp [Obj.len] at hi
        | gho x v => simp [Obj.len] at hi
      · exact h.elim
    · exact h.elim
  · exact h.elim
end
end Go.AM
namespace Go.AM
theorem length_flatten_of {α : Type} {sz : Nat} : ∀ {L : List (List α)}, (∀ l ∈ L, l.length = sz) → L.flatten.length = L.length * sz
  | [], _ => by simp
  | l :: L, h => by
    rw [List.flatten_cons, List.length_append, length_flatten_of (fun x hx => h x (List.mem_cons_of_mem _ hx)), h l (by simp), List.length_cons, Nat.add_mul]; omega
theorem getD_flatten {α : Type} {sz : Nat} (d : α) : ∀ {L : List (List α)}, (∀ l ∈ L, l.length = sz) → ∀ i j, i < L.length → j < sz → L.flatten.getD (i * sz + j) d = (L.getD i []).getD j d
  | [], _, i, j, hi, _ => by simp at hi
  | l :: L, h, i, j, hi, hj => by
    have hl := h l (by simp)
    rw [List.flatten_cons]
    cases i with
    | zero => rw [getD_append_left (by omega)]; simp
    | succ i =>
      rw [getD_append_right (by rw [hl, Nat.add_mul]; omega), hl, show (i + 1) * sz + j - sz = i * sz + j by rw [Nat.add_mul]; omega]
      rw [getD_flatten d (fun x hx => h x (List.mem_cons_of_mem _ hx)) i j (by simpa using hi) hj]
      simp
theorem fill_range {sz : Nat} : ∀ (xs : List Value) (k : Nat) (arr : Array Value), (∀ x ∈ xs, x.cells.size = sz) → (k + xs.length) * sz ≤ arr.size →
    ∃ res : Array Value, Instr.fill (fun i => some (i * sz, sz)) arr ((xs.zipIdx k).map fun p => (p.2, p.1)) = some res ∧
      res.toList = arr.toList.take (k * sz) ++ (xs.map (·.cells.toList)).flatten ++ arr.toList.drop ((k + xs.length) * sz)
  | [], k, arr, _, _ => ⟨arr, rfl, by simp⟩
  | x :: xs, k, arr, h, hl => by
    have hx := h x (by simp)
    have hk : k * sz + sz ≤ arr.size := by
      have : (k + 1) * sz ≤ (k + (xs.length + 1)) * sz := Nat.mul_le_mul_right _ (by omega)
      rw [Nat.add_mul] at this
      simp only [List.length_cons] at hl
      omega
    have hput := put_cells (k * sz) x.cells.toList 0 arr (by rw [Array.length_toList]; omega)
    rw [List.zipIdx_cons, List.map_cons]
    simp only [Instr.fill]
    rw [if_neg (by simp [hx]; omega)]
    have e : (Array.foldl (fun cs (x : Value × Nat) => cs.setIfInBounds (k * sz + x.2) x.1) arr x.cells.zipIdx).toList = arr.toList.take (k * sz) ++ x.cells.toList ++ arr.toList.drop (k * sz + sz) := by
      rw [← Array.foldl_toList, Array.toList_zipIdx]
      simpa [hx] using hput
    have esz : (Array.foldl (fun cs (x : Value × Nat) => cs.setIfInBounds (k * sz + x.2) x.1) arr x.cells.zipIdx).size = arr.size := by
      rw [← Array.length_toList, e, List.length_append, List.length_append, List.length_take, List.length_drop, Array.length_toList, Array.length_toList]; omega
    obtain ⟨res, h1, h2⟩ := fill_range (sz := sz) xs (k + 1) _ (fun y hy => h y (List.mem_cons_of_mem _ hy)) (by rw [esz]; simp only [List.length_cons] at hl; rw [show k + 1 + xs.length = k + (xs.length + 1) by omega]; exact hl)
    refine ⟨res, h1, ?_⟩
    rw [h2, e]
    have hlen : (arr.toList.take (k * sz) ++ x.cells.toList).length = (k + 1) * sz := by
      rw [List.length_append, List.length_take, Array.length_toList, Array.length_toList, Nat.add_mul]; omega
    rw [List.take_append_of_le_length (by omega), List.take_of_length_le (by omega), List.map_cons, List.flatten_cons]
    have hd : (arr.toList.take (k * sz) ++ x.cells.toList ++ arr.toList.drop (k * sz + sz)).drop ((k + 1 + xs.length) * sz) = arr.toList.drop ((k + (x :: xs).length) * sz) := by
      rw [List.drop_append, List.drop_eq_nil_of_le (by rw [hlen]; exact Nat.mul_le_mul_right _ (by omega)), List.nil_append, hlen, List.drop_drop, List.length_cons]
      congr 1
      have : (k + 1 + xs.length) * sz = (k + 1) * sz + xs.length * sz := Nat.add_mul ..
      have h2 : (k + (xs.length + 1)) * sz = (k + 1 + xs.length) * sz := by congr 1; omega
      rw [h2, this, Nat.add_mul k 1 sz]
      omega
    rw [hd]
    simp [List.append_assoc]
theorem zok_run {P : Program} {te : TypeId} {sz : Nat} (h : zok P te sz) : ∃ i zx, P.info? te = some i ∧ i.zero = some zx ∧ zx.cells.size = sz := by
  unfold zok at h
  split at h
  · rename_i z hz
    unfold zv at hz
    split at hz
    · rename_i i hi
      cases hzz : i.zero with
      | none => simp [hzz] at hz
      | some x =>
        simp only [hzz, Option.map_some, Option.some.injEq] at hz
        subst hz
        refine ⟨i, x, hi, hzz, ?_⟩
        cases x <;> simpa [ofZero, V.cells, Value.cells] using h
    · cases hz
  · exact h.elim
section
variable {P : Program} {w0 : World} {O M : Nat → Prop} {s : St} {loc : Nat → Value} {a : Act} {w : World} {o : Oper}
theorem new_free (S : SimAt w0 O M s.heap loc s.slots a.tmps.toList w) (ob : Go.Obj) : (env (w.alloc ob) O s.heap loc).F w.heap.size := by
  refine ⟨by simp, fun h => by have := S.O_lt _ h; have := S.ext.size; omega, fun id hid he => by have := S.lt hid he; omega⟩
theorem rel_new_row (S : SimAt w0 O M s.heap loc s.slots a.tmps.toList w) {te : TypeId} {cells : Array Value} {sz : Nat} {es : List V} {full : Bool} {c : Nat} (hz : 0 < sz) (hc : es.length ≤ c) (hm : c ≤ maxLen)
    (hf : full = true → c = es.length) (hd : V.dataL es = true) (hst : Stride sz es) (hsz : es.length * sz ≤ cells.size)
    (hr : ∀ i j, i < es.length → j < sz → Rel (env w O s.heap loc) (cells.getD (i * sz + j) undef) ((es.getD i .any).cells.getD j .any)) :
    Rel (env (w.alloc (.cells cells te)) O s.heap loc) (.slice (some ⟨w.heap.size, 0, none⟩) es.length c) (.sl full es) := by
  have hg := Grows.alloc w (.cells cells te)
  by_cases h0 : es = []
  · subst h0; exact .nil _ _ _ (fun h => by simpa using hf h) hm
  · refine .sl full es w.heap.size 0 c sz (fun k => cells.getD k undef) hd hc hm hf (new_free S _) hz (fun i hi => hst _ ?_) (fun k hk => ?_) (fun i j hi hj => S.rel_grows hg (hr i j hi hj))
    · rw [List.getD_eq_getElem?_getD, List.getElem?_eq_getElem hi]; exact List.getElem_mem hi
    · show (w.alloc _).cell? _ = _
      rw [cell_of_row _ w.heap.size _ cells te (0, 0) (heap_alloc_new w _)]
      have : k < cells.size := by omega
      simp [Array.getD_eq_getD_getElem?, this]
theorem op_buildSlice {K : V → St → Prop} {t : TypeId} {n : Nat} {parts : Array (Nat × Operand)} (ho : o.op = .buildSlice t n parts) (h : opK P o s K) (S : SimAt w0 O M s.heap loc s.slots a.tmps.toList w) : Steps1 P w0 O M a w o K := by
  simp only [opK, ho] at h
  split at h
  · rename_i te sz by_ ht
    obtain ⟨hz, hsmall, hzv, hidx, hdat, hsto, hstr, hK⟩ := h
    obtain ⟨hu, ie, hie, hisz, _⟩ := slv_run ht
    obtain ⟨i2, zx, hi2, hzx, _⟩ := zok_run hzv
    rw [hie] at hi2; cases hi2
    subst hisz
    have hlen : parts.toList.length = n := by have := congrArg List.length hidx; simpa using this
    -- the parts, as the machine hands them
    have hrel : ∀ p ∈ parts.toList, Rel (env w O s.heap loc) (a.eval p.2) (ev s.slots p.2) := fun p _ => ev_rel S.vals p.2
    have hcl : ∀ x ∈ parts.toList.map (fun p => a.eval p.2), x.cells.size = ie.size := by
      intro x hx
      obtain ⟨p, hp, rfl⟩ := List.mem_map.1 hx
      have h1 := ((hrel p hp).cells (hsto _ (List.mem_map.2 ⟨p, hp, rfl⟩))).1
      have h2 := hstr _ (List.mem_map.2 ⟨p, hp, rfl⟩)
      rw [Array.length_toList] at h1; omega
    have hparts : (parts.map fun (i, x) => (i, a.eval x)).toList = ((parts.toList.map fun p => a.eval p.2).zipIdx 0).map fun p => (p.2, p.1) := by
      apply List.ext_getElem
      · simp
      · intro j h1 h2
        have hj : j < parts.toList.length := by simpa using h1
        have e : (parts.toList[j]).1 = j := by
          have h3 : (parts.toList.map (·.1))[j]'(by simpa using hj) = (List.range n)[j]'(by simp; omega) := by simp only [hidx]
          simpa using h3
        have e' : (parts[j]'(by simpa using hj)).1 = j := by simpa using e
        simp [e']
    have hes : (parts.toList.map fun p => ev s.slots p.2).length = n := by simpa using hlen
    by_cases h0 : n = 0
    · have hp0 : parts.toList = [] := List.eq_nil_of_length_eq_zero (by omega)
      have hp1 : parts = #[] := by cases parts; simp_all
      subst hp1
      subst h0
      have := rel_new_row (full := true) (c := 0) (te := te) (cells := #[]) (sz := ie.size) (es := []) S hz (by simp) (by simp [maxLen]) (by simp) rfl (by intro v hv; simp at hv) (by simp) (by simp)
      have hK := hK.resolve_right (fun h => by omega)
      refine ⟨_, _, _, s, loc, ?_, .inl ⟨_, rfl, this⟩, by simpa using hK, S.grows (Grows.alloc w _)⟩
      unfold execOp
      simp only [ho]
      refine run_lift ?_
      simp [Instr.buildSlice, run_underlying hu, sizeOf, typeInfo, hie, Instr.fill, newRow, Array.range_zero']
    · obtain ⟨res, hf1, hf2⟩ := fill_range (sz := ie.size) (parts.toList.map fun p => a.eval p.2) 0 ((Array.range (n * ie.size)).map (zx.cells[· % zx.cells.size]!)) hcl (by simp [hlen])
      rw [← hparts] at hf1
      have hpos : ¬ n * ie.size = 0 := by
        have := Nat.mul_pos (show 0 < n by omega) hz; omega
      have hsm : ¬ n * ie.size > 2 ^ 24 := by omega
      have hrun := run_buildSlice (P := P) w t te n _ res ie zx hu hie hzx hsm hpos hf1
      have hL : ∀ l ∈ (parts.toList.map fun p => a.eval p.2).map (·.cells.toList), l.length = ie.size := by
        intro l hl
        obtain ⟨x, hx, rfl⟩ := List.mem_map.1 hl
        rw [Array.length_toList]; exact hcl x hx
      have hres : res.toList = ((parts.toList.map fun p => a.eval p.2).map (·.cells.toList)).flatten := by
        rw [hf2]
        simp [hlen]
      have hrs : res.size = n * ie.size := by
        rw [← Array.length_toList, hres, length_flatten_of hL]; simp [hlen]
      have hcellr : ∀ i j, i < (parts.toList.map fun p => ev s.slots p.2).length → j < ie.size → Rel (env w O s.heap loc) (res.getD (i * ie.size + j) undef) (((parts.toList.map fun p => ev s.slots p.2).getD i .any).cells.getD j .any) := by
        intro i j hi hj
        have hi' : i < parts.toList.length := by simpa using hi
        have e1 : res.getD (i * ie.size + j) undef = (a.eval parts.toList[i].2).cells.toList.getD j undef := by
          have : res.getD (i * ie.size + j) undef = res.toList.getD (i * ie.size + j) undef := by simp [Array.getD_eq_getD_getElem?, List.getD_eq_getElem?_getD]
          rw [this, hres, getD_flatten undef hL i j (by simpa using hi') hj, List.map_map, getD_map_lt hi']
          rfl
        have e2 : (parts.toList.map fun p => ev s.slots p.2).getD i .any = ev s.slots parts.toList[i].2 := getD_map_lt hi' _
        rw [e1, e2]
        have hc := (hrel _ (List.getElem_mem hi')).cells (hsto _ (List.mem_map.2 ⟨_, List.getElem_mem hi', rfl⟩))
        exact hc.getD j
      have hr := rel_new_row (full := true) (te := te) (cells := res) (c := n) S hz (by omega) (by simp only [maxLen]; have := Nat.le_mul_of_pos_right n hz; omega) (fun _ => hes.symm) hdat hstr (by rw [hes, hrs]; exact Nat.le_refl _) hcellr
      rw [hes] at hr
      rcases hK with hK | ⟨_, hK⟩
      · refine ⟨_, _, _, s, loc, ?_, .inl ⟨_, rfl, hr⟩, hK, S.grows (Grows.alloc w _)⟩
        unfold execOp
        simp only [ho]
        exact run_lift hrun
      · obtain ⟨d, hd, hf, hK⟩ := free_elim hK
        have hnm : n ≤ maxLen := by simp only [maxLen]; have := Nat.le_mul_of_pos_right n hz; omega
        obtain ⟨k1, k2⟩ := S.new d hf (Grows.alloc w (.cells res te)) (.slice (some ⟨w.heap.size, 0, none⟩) n n) (.lst te ie.size (parts.toList.map fun p => ev s.slots p.2)) (by intro b hb; simp [blk] at hb; omega) (fun hrel => by
          refine ⟨⟨hz, hdat⟩, res.toList, ⟨by rw [Array.length_toList, hes, hrs], .inr ⟨w.heap.size, n, res, ?_, Nat.zero_le _, heap_alloc_new w _, by rw [hes]; exact Nat.le_refl _, hnm, hrs, ?_⟩⟩, fun i hi => ?_, fun i j hi hj => ?_⟩
          · show (if d = d then _ else loc d) = _
            rw [if_pos rfl, hes]
          · rw [hes, List.take_of_length_le (by rw [Array.length_toList, hrs]; exact Nat.le_refl _)]
          · refine hstr _ ?_
            rw [List.getD_eq_getElem?_getD, List.getElem?_eq_getElem hi]; exact List.getElem_mem hi
          · have := hrel _ _ (hcellr i j hi hj)
            simpa [Array.getD_eq_getD_getElem?, List.getD_eq_getElem?_getD] using this)
        refine ⟨_, _, .own d, _, _, ?_, .inl ⟨.slice (some ⟨w.heap.size, 0, none⟩) n n, rfl, ?_⟩, hK, k1⟩
        · unfold execOp
          simp only [ho]
          exact run_lift hrun
        · have := Rel.own (E := env (w.alloc (.cells res te)) O ((d, .lst te ie.size (parts.toList.map fun p => ev s.slots p.2)) :: s.heap) (fun k => if k = d then .slice (some ⟨w.heap.size, 0, none⟩) n n else loc k)) d _ (look_eq d _ _) rfl ⟨some ⟨w.heap.size, 0, none⟩, n, n, if_pos rfl⟩
          simpa [env] using this
  · exact h.elim
def SrcOK (E : Env) (xv : Value) (sz : Nat) (ns : List V) : Prop :=
  ∃ (a : Option Addr) (c : Nat) (news : List Value), xv = .slice a ns.length c ∧ news.length = ns.length * sz ∧ Flat E (fun k => news.getD k undef) sz ns ∧ V.dataL ns = true ∧ (ns ≠ [] → ∃ ad, a = some ad ∧ ∀ j u, news[j]? = some u → E.w.cell? (ad.add j) = some u)
theorem src_sound {t : TypeId} {sz : Nat} {x : V} {xv : Value} {K : List V → Prop} {E : Env} {H : Heap} (hE : E.obj = look H) (h : srcK P t sz H x K) (hr : Rel E xv x) (hobj : ∀ id ob, look H id = some ob → ObjOK E id ob) :
    ∃ ns e, K ns ∧ SrcOK E xv sz ns ∧ P.underlying t = some (.slice e) := by
  have ty : (slv P t).isSome = true → ∃ e, P.underlying t = some (.slice e) := fun hs => by
    obtain ⟨⟨te, sz, by_⟩, ht⟩ := Option.isSome_iff_exists.1 hs
    exact ⟨_, (slv_run ht).1⟩
  unfold srcK at h
  split at h
  · rename_i full ns
    obtain ⟨hs, hst, hK⟩ := h
    obtain ⟨e, he⟩ := ty hs
    refine ⟨ns, e, hK, ?_, he⟩
    have hlen : ∀ i, i < ns.length → (ns.getD i .any).cells.length = sz := fun i hi => hst _ (by
      rw [List.getD_eq_getElem?_getD, List.getElem?_eq_getElem hi]; exact List.getElem_mem hi)
    generalize hv : V.sl full ns = v at hr
    cases hr with
    | nil f a c h1 h2 =>
      cases hv
      exact ⟨a, c, [], rfl, by simp, ⟨by simp, by simp⟩, rfl, by simp⟩
    | sl f es g off c sz' fv a1 a2 a3 a4 a5 a6 a7 a8 a9 =>
      cases hv
      by_cases h0 : ns = []
      · subst h0; exact ⟨_, c, [], rfl, by simp, ⟨by simp, by simp⟩, rfl, by simp⟩
      · have hpos : 0 < ns.length := List.length_pos_iff.2 h0
        have esz : sz' = sz := by rw [← a7 0 hpos, hlen 0 hpos]
        subst esz
        refine ⟨_, c, (List.range (ns.length * sz')).map fv, rfl, by simp, ⟨hlen, fun i j hi hj => ?_⟩, a1, fun _ => ⟨_, rfl, fun j u hu => ?_⟩⟩
        · have hb : i * sz' + j < ns.length * sz' := by
            have : (i + 1) * sz' ≤ ns.length * sz' := Nat.mul_le_mul_right _ hi
            rw [Nat.add_mul] at this; omega
          have : ((List.range (ns.length * sz')).map fv).getD (i * sz' + j) undef = fv (i * sz' + j) := by simp [List.getD_eq_getElem?_getD, hb]
          simp only [this]; exact a9 i j hi hj
        · rw [List.getElem?_map] at hu
          by_cases hb : j < ns.length * sz'
          · rw [List.getElem?_range hb] at hu
            simp only [Option.map_some, Option.some.injEq] at hu
            subst hu
            rw [addr_add]; exact a8 j hb
          · rw [List.getElem?_eq_none (by simp; omega)] at hu; cases hu
    | _ => cases hv
  · rename_i id
    split at h
    · rename_i te sz' ns hl
      obtain ⟨hs, rfl, hK⟩ := h
      obtain ⟨e, he⟩ := ty hs
      refine ⟨ns, e, hK, ?_, he⟩
      obtain ⟨ex, _⟩ := hr.own_inv
      obtain ⟨⟨hz, hd⟩, xs, ho, hf⟩ := hobj id _ hl
      rcases ho.2 with ⟨e', h0⟩ | ⟨g, cap, cur, e', h1, hg, h2, h3, h4, h5⟩
      · have : ns = [] := List.eq_nil_of_length_eq_zero h0
        subst this
        rw [ex, e']
        exact ⟨_, _, [], rfl, by simp, ⟨by simp, by simp⟩, rfl, by simp⟩
      · rw [ex, e']
        refine ⟨_, _, xs, rfl, ho.1, hf, hd, fun _ => ⟨_, rfl, fun j u hu => ?_⟩⟩
        exact ho.cells (by rw [e']; rfl) j u hu
    · exact h.elim
  · obtain ⟨hs, hK⟩ := h
    obtain ⟨e, he⟩ := ty hs
    refine ⟨[], e, hK, ?_, he⟩
    rw [Rel.sc_iff.1 hr]
    exact ⟨none, 0, [], rfl, by simp, ⟨by simp, by simp⟩, rfl, by simp⟩
  · exact h.elim
theorem src_one {E : Env} {news : List Value} {sz : Nat} {ns : List V} (hl : news.length = ns.length * sz) (hz : 0 < sz) (hf : Flat E (fun k => news.getD k undef) sz ns) (hs : Storable ns) : ∀ u ∈ news, u.oneCell' = true := by
  intro u hu
  obtain ⟨k, hk, rfl⟩ := List.mem_iff_getElem.1 hu
  have hi : k / sz < ns.length := by rw [Nat.div_lt_iff_lt_mul hz]; omega
  have hj : k % sz < sz := Nat.mod_lt _ hz
  have hr := hf.2 (k / sz) (k % sz) hi hj
  have e : k / sz * sz + k % sz = k := by rw [Nat.mul_comm]; exact Nat.div_add_mod k sz
  have hmem : ns.getD (k / sz) .any ∈ ns := by rw [List.getD_eq_getElem?_getD, List.getElem?_eq_getElem hi]; exact List.getElem_mem hi
  have hok : (ns.getD (k / sz) .any).cells.all V.one = true := hs _ hmem
  have hlen := hf.1 _ hi
  have h1 : V.one ((ns.getD (k / sz) .any).cells.getD (k % sz) .any) = true := by
    have hb : k % sz < (ns.getD (k / sz) .any).cells.length := by omega
    rw [List.getD_eq_getElem?_getD (l := (ns.getD (k / sz) .any).cells), List.getElem?_eq_getElem hb]
    exact List.all_eq_true.1 hok _ (List.getElem_mem hb)
  simp only [e] at hr
  rw [List.getD_eq_getElem?_getD, List.getElem?_eq_getElem hk] at hr
  have := okCells_all (cs := [(ns.getD (k / sz) .any).cells.getD (k % sz) .any]) (by simpa using h1) (RelL.cons hr (.nil _))
  exact this _ (by simp)
theorem append_types {t t' ty e : TypeId} {b : Option Addr} {n c : Nat} {y : Value} (hu : P.underlying t = some (.slice e)) {i : TypeInfo} (hi : P.info? e = some i) {e' : TypeId} (hu' : P.underlying t' = some (.slice e')) (w : World) :
    (Builtin.append_ #[t, t'] ty #[.slice b n c, y]).run P w = (Builtin.append_ #[t, t] ty #[.slice b n c, y]).run P w := by
  simp [Builtin.append_, Sem.run_bind, run_underlying hu, run_underlying hu', sizeOf, typeInfo, hi]
theorem fresh_owns (w : World) {te : TypeId} {z : Value} {sz k cap : Nat} {ys : Array Value} (hy : ys.size = k * sz) (hz : z.cells.size = sz) (hk : k ≤ cap) (hc : cap ≤ maxLen) :
    (w.drew.alloc (.cells (ys ++ Builtin.zeroCells z.cells (cap - k)) te)).ownsRow 0 te sz (.slice (some ⟨w.heap.size, 0, none⟩) k cap) k ys.toList := by
  refine ⟨by rw [Array.length_toList]; exact hy, .inr ⟨w.heap.size, cap, _, rfl, Nat.zero_le _, heap_alloc_new w.drew _, hk, hc, ?_, ?_⟩⟩
  · rw [Array.size_append, hy, size_zeroCells, hz, ← Nat.add_mul]; congr 1; omega
  · rw [Array.toList_append, ← hy, ← Array.length_toList, List.take_left]
theorem Flat.append {E E' : Env} {xs ys : List Value} {sz : Nat} {es ns : List V} (h : Flat E (fun k => xs.getD k undef) sz es) (hx : xs.length = es.length * sz) (k : Flat E' (fun k => ys.getD k undef) sz ns)
    (m : ∀ i j, i < es.length → j < sz → Rel E (xs.getD (i * sz + j) undef) ((es.getD i .any).cells.getD j .any) → Rel E' (xs.getD (i * sz + j) undef) ((es.getD i .any).cells.getD j .any)) :
    Flat E' (fun k => (xs ++ ys).getD k undef) sz (es ++ ns) := by
  refine ⟨fun i hi => ?_, fun i j hi hj => ?_⟩
  · by_cases hc : i < es.length
    · rw [getD_append_left hc]; exact h.1 i hc
    · rw [getD_append_right (by omega)]; exact k.1 _ (by simp at hi; omega)
  · by_cases hc : i < es.length
    · have hb : i * sz + j < xs.length := by
        rw [hx]
        have : (i + 1) * sz ≤ es.length * sz := Nat.mul_le_mul_right _ hc
        rw [Nat.add_mul] at this; omega
      simp only [getD_append_left hc, getD_append_left hb]
      exact m i j hc hj (h.2 i j hc hj)
    · have hc' : es.length ≤ i := by omega
      have hb : xs.length ≤ i * sz + j := by
        rw [hx]
        have : es.length * sz ≤ i * sz := Nat.mul_le_mul_right _ hc'
        omega
      have e : i * sz + j - xs.length = (i - es.length) * sz + j := by
        rw [hx, Nat.sub_mul]
        have : es.length * sz ≤ i * sz := Nat.mul_le_mul_right _ hc'
        omega
      simp only [getD_append_right hc', getD_append_right hb, e]
      exact k.2 _ j (by simp at hi; omega) hj
end
end Go.AM
namespace Go.AM
section
variable {P : Program} {w0 : World} {O M : Nat → Prop} {s : St} {loc : Nat → Value} {a : Act} {w : World} {o : Oper}
theorem drew_alloc_ext (w : World) (ob : Go.Obj) (M : Nat → Prop) : Ext w M (w.drew.alloc ob) :=
  ⟨rfl, rfl, rfl, by simp, fun b hb _ => Go.heap_alloc_old w.drew ob b hb⟩
theorem app_own {t te ty : TypeId} {ie : TypeInfo} {zx : Value} {sz by_ : Nat} (hu : P.underlying t = some (.slice te)) (hie : P.info? te = some ie) (hzx : ie.zero = some zx) (hs : ie.size = sz) (hb : ie.bytes = by_)
    (hzs : zx.cells.size = sz) (hz : 0 < sz) {v0 : Value} {n : Nat} {xs : List Value} (hown : w.ownsRow 0 te sz v0 n xs) {ad : Option Addr} {m c : Nat} {news : List Value} (hl : news.length = m * sz)
    (hnews : 0 < m → ∃ b, ad = some b ∧ ∀ j u, news[j]? = some u → w.cell? (b.add j) = some u) (h1 : ∀ u ∈ news, u.oneCell' = true) (hbytes : (n + m) * by_ ≤ 140737488355328) (hlen : n + m ≤ 140737488355328) :
    ∃ v' w', (Builtin.append_ #[t, t] ty #[v0, .slice ad m c]).run P w = .ok v' w' ∧ w'.ownsRow 0 te sz v' (n + m) (xs ++ news) ∧ Ext w (fun b => blk v0 = some b) w' ∧
      (∀ b, blk v' = some b → w.heap.size ≤ b ∨ blk v0 = some b) := by
  subst hs
  subst hb
  have hgm : ∀ old, grownCap w (n + m) old te ≤ maxLen := fun old => grownCap_le_maxLen w _ _ _ (by simp only [maxLen]; omega)
  rcases Nat.eq_zero_or_pos m with hm | hm
  · subst hm
    have hn : news = [] := List.eq_nil_of_length_eq_zero (by simpa using hl)
    subst hn
    refine ⟨v0, w, ?_, by simpa using hown, Ext.refl w _, fun b hb => .inr hb⟩
    rcases hown.2 with ⟨rfl, rfl⟩ | ⟨g, cap, cur, rfl, _, hg, hcap, _⟩
    · cases ad <;> simp [Builtin.append_, run_underlying hu, sizeOf, typeInfo, hie, Builtin.lenOf, Builtin.firstCells, loadCells, loadCellsFrom]
    · cases ad <;> simp [Builtin.append_, run_underlying hu, sizeOf, typeInfo, hie, Builtin.lenOf, Builtin.firstCells, loadCells, loadCellsFrom, hcap, storeCells]
  · obtain ⟨b, rfl, hcell⟩ := hnews hm
    rcases hown.2 with ⟨rfl, rfl⟩ | ⟨g, cap, cur, rfl, h0, hg, hcap, hcm, hcs, htake⟩
    · have hx : xs = [] := List.eq_nil_of_length_eq_zero (by simpa using hown.1)
      subst hx
      have hr := run_append_nil (P := P) w t ty te ie zx hu hie hzx b m c news hl hcell hm (by omega) (by simp only [Nat.zero_add] at hbytes; omega)
      refine ⟨_, _, hr, ?_, drew_alloc_ext w _ _, fun b hb => by simp [blk] at hb; omega⟩
      have := fresh_owns w (te := te) (z := zx) (sz := ie.size) (k := m) (cap := grownCap w m 0 te) (ys := news.toArray) (by simpa using hl) hzs (grownCap_ge w m 0 te) (by simpa using hgm 0)
      simpa using this
    · have holds : ∀ j u, xs[j]? = some u → w.cell? ((⟨g, 0, none⟩ : Addr).add j) = some u := hown.cells (g := g) rfl
      by_cases hroom : n + m ≤ cap
      · have hfit : n * ie.size + news.length ≤ cur.size := by rw [hl, hcs, ← Nat.add_mul]; exact Nat.mul_le_mul_right _ hroom
        have hr := run_append_room (P := P) w t ty te ie hu hie g n cap cur hg b m c news hl hcell h1 hroom hfit
        refine ⟨_, _, hr, ⟨by rw [List.length_append, hown.1, hl, Nat.add_mul], .inr ⟨g, cap, _, rfl, Nat.zero_le _, setRow_heap w g cur _ te _ hg, hroom, hcm, ?_, ?_⟩⟩, ?_, fun b hb => .inr (by simpa [blk] using hb)⟩
        · simp only [List.size_toArray, List.length_append, List.length_take, List.length_drop, Array.length_toList]; omega
        · have e1 : (cur.toList.take (n * ie.size) ++ news).length = (n + m) * ie.size := by rw [htake, List.length_append, hown.1, hl, Nat.add_mul]
          rw [← e1, List.take_left, htake]
        · refine ⟨rfl, rfl, rfl, by simp, fun k _ hk => setRow_other w g k _ ?_⟩
          intro e; subst e; exact hk rfl
      · have hr := run_append_grow (P := P) w t ty te ie zx hu hie hzx ⟨g, 0, none⟩ n cap xs hown.1 holds b m c news hl hcell (by omega) (by omega) (growslice_fits (by omega) hbytes)
        refine ⟨_, _, hr, ?_, drew_alloc_ext w _ _, fun b hb => by simp [blk] at hb; omega⟩
        have := fresh_owns w (te := te) (z := zx) (sz := ie.size) (k := n + m) (cap := grownCap w (n + m) cap te) (ys := xs.toArray ++ news.toArray)
          (by rw [Array.size_append, List.size_toArray, List.size_toArray, hown.1, hl, Nat.add_mul]) hzs (grownCap_ge w _ _ te) (hgm cap)
        simpa using this
theorem app_full {t te ty : TypeId} {ie : TypeInfo} {zx : Value} {sz by_ : Nat} (hu : P.underlying t = some (.slice te)) (hie : P.info? te = some ie) (hzx : ie.zero = some zx) (hs : ie.size = sz) (hb : ie.bytes = by_)
    (hzs : zx.cells.size = sz) {n : Nat} {olds : List Value} {od : Option Addr} (hlo : olds.length = n * sz) (holds : 0 < n → ∃ b, od = some b ∧ ∀ j u, olds[j]? = some u → w.cell? (b.add j) = some u)
    {ad : Option Addr} {m c : Nat} {news : List Value} (hl : news.length = m * sz)
    (hnews : 0 < m → ∃ b, ad = some b ∧ ∀ j u, news[j]? = some u → w.cell? (b.add j) = some u) (hm : 0 < m) (hbytes : (n + m) * by_ ≤ 140737488355328) (hlen : n + m ≤ 140737488355328) :
    ∃ v' w', (Builtin.append_ #[t, t] ty #[.slice od n n, .slice ad m c]).run P w = .ok v' w' ∧ w'.ownsRow 0 te sz v' (n + m) (olds ++ news) ∧ Grows w w' ∧ (∀ b, blk v' = some b → w.heap.size ≤ b) := by
  subst hs
  subst hb
  obtain ⟨b, rfl, hcell⟩ := hnews hm
  have hgm : grownCap w (n + m) n te ≤ maxLen := grownCap_le_maxLen w _ _ _ (by simp only [maxLen]; omega)
  have fin : ∀ bb, (∀ j u, olds[j]? = some u → w.cell? ((bb : Addr).add j) = some u) → od = some bb → ∃ v' w', (Builtin.append_ #[t, t] ty #[.slice od n n, .slice (some b) m c]).run P w = .ok v' w' ∧ w'.ownsRow 0 te ie.size v' (n + m) (olds ++ news) ∧ Grows w w' ∧ (∀ b, blk v' = some b → w.heap.size ≤ b) := by
    rintro bb hbb rfl
    have hr := run_append_grow (P := P) w t ty te ie zx hu hie hzx bb n n olds hlo hbb b m c news hl hcell (by omega) (by omega) (growslice_fits (by omega) hbytes)
    refine ⟨_, _, hr, ?_, drew_alloc_ext w _ _, fun b hb => by simp [blk] at hb; omega⟩
    have := fresh_owns w (te := te) (z := zx) (sz := ie.size) (k := n + m) (cap := grownCap w (n + m) n te) (ys := olds.toArray ++ news.toArray)
      (by rw [Array.size_append, List.size_toArray, List.size_toArray, hlo, hl, Nat.add_mul]) hzs (grownCap_ge w _ _ te) hgm
    simpa using this
  rcases Nat.eq_zero_or_pos n with hn | hn
  · subst hn
    have hx : olds = [] := List.eq_nil_of_length_eq_zero (by simpa using hlo)
    subst hx
    cases od with
    | some bb => exact fin bb (by simp) rfl
    | none =>
      have hr := run_append_nil (P := P) w t ty te ie zx hu hie hzx b m c news hl hcell hm (by omega) (by simp only [Nat.zero_add] at hbytes; omega)
      refine ⟨_, _, hr, ?_, drew_alloc_ext w _ _, fun b hb => by simp [blk] at hb; omega⟩
      have := fresh_owns w (te := te) (z := zx) (sz := ie.size) (k := m) (cap := grownCap w m 0 te) (ys := news.toArray) (by simpa using hl) hzs (grownCap_ge w m 0 te) (by simpa using hgm)
      simpa using this
  · obtain ⟨bb, rfl, hbb⟩ := holds hn
    exact fin bb hbb rfl
theorem run_append_zeros {P : Program} {w : World} (t u ty e : TypeId) (i : TypeInfo) (z : Value) (ht : P.underlying t = some (.slice e)) {ik : IntKind} (hu : P.underlying u = some (.int ik)) (hi : P.info? e = some i) (hz : i.zero = some z)
    (k : IntKind) (n : Nat) (h0 : 0 < n) (h63 : (n : Int) ≤ 140737488355328) (h48 : n * i.bytes ≤ 140737488355328) (hs : 0 < i.size) :
    (Builtin.append_ #[t, u] ty #[.slice none 0 0, .int k n]).run P w =
      .ok (.slice (some ⟨w.heap.size, 0, none⟩) n (grownCap w n 0 e)) (w.drew.alloc (.cells (Builtin.zeroCells z.cells n ++ Builtin.zeroCells z.cells (grownCap w n 0 e - n)) e)) := by
  have hn : n ≠ 0 := by omega
  have hns : n * i.size ≠ 0 := Nat.ne_of_gt (Nat.mul_pos h0 hs)
  have wl : IntKind.i64.wrap (n : Int) = n := by rw [IntKind.wrap_i64]; omega
  have n1 : ¬ ((n : Int) < 0) := by omega
  have n2 : ¬ (281474976710656 < (n : Int) * (i.bytes : Int)) := by
    have : ((n * i.bytes : Nat) : Int) ≤ 140737488355328 := by omega
    rw [Int.natCast_mul] at this; omega
  have h63' : ¬ (9223372036854775807 < (n : Int)) := by omega
  have h48' : ¬ (281474976710656 < Builtin.nextslicecap n 0 * i.bytes) := by rw [nextslicecap_zero h0]; omega
  simp [Builtin.append_, run_underlying ht, run_underlying hu, asInt, asIntOf, sizeOf, typeInfo, zeroValue, hi, hz, wl, n1, n2, hn, hns, h63', h48', Question.forced, run_firstCells_none, newRow, grownCap]
theorem zeros_sound {t t' te : TypeId} {sz by_ d : Nat} {x y : Operand} {ik k : IntKind} {n : Int} {z : V} {K : V → St → Prop} (ho : o.op = .call { callee := .builtin .append, args := #[x, y], argTypes := #[t, t'] }) (ht : slv P t = some (te, sz, by_)) (hut : P.underlying t' = some (.int ik))
    (ex : a.eval x = .slice none 0 0) (ey : a.eval y = .int k n) (h0 : 0 < n) (hb1 : n.toNat * by_ ≤ 140737488355328) (hb2 : n ≤ 140737488355328) (hsz : 0 < sz) (hz : zv P te = some z) (hzl : z.cells.length = sz) (hzo : z.okCells = true)
    (hfree : look s.heap d = none) (hK : K (.own d) ⟨s.slots, (d, .lst te sz (List.replicate n.toNat z)) :: s.heap⟩) (S : SimAt w0 O M s.heap loc s.slots a.tmps.toList w) : Steps1 P w0 O M a w o K := by
  obtain ⟨hu, ie, hie, his, hib⟩ := slv_run ht
  obtain ⟨i2, zx, hi2, hzx, hzr⟩ := zv_rel hz (env w O s.heap loc)
  rw [hie] at hi2; cases hi2
  have hzc := hzr.cells hzo
  have hzs : zx.cells.size = sz := by have := hzc.1; rw [Array.length_toList] at this; omega
  obtain ⟨m, rfl⟩ : ∃ m : Nat, n = m := ⟨n.toNat, by omega⟩
  rw [Int.toNat_natCast] at hb1 hK
  have hrun := run_append_zeros (P := P) (w := w) t t' o.type te ie zx hu hut hie hzx k m (by omega) hb2 (by rw [hib]; exact hb1) (by omega)
  have hcap : m ≤ grownCap w m 0 te := grownCap_ge w m 0 te
  have hcm : grownCap w m 0 te ≤ maxLen := grownCap_le_maxLen w _ _ _ (by simp only [maxLen]; omega)
  have hzsz : ∀ q, (Builtin.zeroCells zx.cells q).size = q * sz := fun q => by simp [Builtin.zeroCells, hzs]
  have hcell : ∀ i j, i < m → j < sz → (Builtin.zeroCells zx.cells m).getD (i * sz + j) undef = zx.cells.getD j undef := by
    intro i j hi hj
    have hb : i * sz + j < m * sz := by
      have : (i + 1) * sz ≤ m * sz := Nat.mul_le_mul_right _ hi
      rw [Nat.add_mul] at this; omega
    have hmod : (i * sz + j) % sz = j := by rw [Nat.mul_comm, Nat.mul_add_mod, Nat.mod_eq_of_lt hj]
    have hjz : j < zx.cells.size := by omega
    have g1 : zx.cells[j]! = zx.cells[j] := getElem!_pos zx.cells j hjz
    have g2 : zx.cells[j]?.getD undef = zx.cells[j] := by simp [hjz]
    simp [Builtin.zeroCells, Array.getD_eq_getD_getElem?, hb, hzs, hmod, g1]
    exact g2.symm
  have hdz : z.data = true := by
    unfold zv at hz
    rw [hie] at hz
    simp only [hzx, Option.map_some, Option.some.injEq] at hz
    subst hz
    cases zx <;> simp [ofZero, V.data]
    rw [V.dataL_iff]
    intro v hv
    obtain ⟨y, _, rfl⟩ := List.mem_map.1 hv
    rfl
  have hdat : V.dataL (List.replicate m z) = true := by
    rw [V.dataL_iff]; intro v hv; rw [(List.mem_replicate.1 hv).2]; exact hdz
  have hgr : Grows w (w.drew.alloc (.cells (Builtin.zeroCells zx.cells m ++ Builtin.zeroCells zx.cells (grownCap w m 0 te - m)) te)) := drew_alloc_ext w _ _
  have hget : ∀ i, i < m → (List.replicate m z).getD i .any = z := fun i hi => by simp [List.getD_eq_getElem?_getD, hi]
  obtain ⟨k1, k2⟩ := S.new d hfree hgr (.slice (some ⟨w.heap.size, 0, none⟩) m (grownCap w m 0 te)) (.lst te sz (List.replicate m z)) (by intro b hb; simp [blk] at hb; omega) (fun hrel => by
    refine ⟨⟨hsz, hdat⟩, (Builtin.zeroCells zx.cells m).toList, ?_, ?_⟩
    · show World.ownsRow _ 0 te sz (if d = d then _ else loc d) _ _
      rw [if_pos rfl, List.length_replicate]
      have hf := fresh_owns w (te := te) (z := zx) (sz := sz) (k := m) (cap := grownCap w m 0 te) (ys := Builtin.zeroCells zx.cells m) (hzsz m) hzs hcap hcm
      exact hf
    · refine ⟨fun i hi => by rw [List.length_replicate] at hi; rw [hget i hi]; exact hzl, fun i j hi hj => ?_⟩
      rw [List.length_replicate] at hi
      rw [hget i hi]
      have e : (Builtin.zeroCells zx.cells m).toList.getD (i * sz + j) undef = zx.cells.getD j undef := by
        rw [← hcell i j hi hj]; simp [Array.getD_eq_getD_getElem?, List.getD_eq_getElem?_getD]
      simp only [e]
      have := hzc.getD j
      refine hrel _ _ ?_
      simpa [Array.getD_eq_getD_getElem?, List.getD_eq_getElem?_getD] using this)
  refine ⟨.value (.slice (some ⟨w.heap.size, 0, none⟩) m (grownCap w m 0 te)), _, .own d, _, _, ?_, .inl ⟨_, rfl, ?_⟩, hK, k1⟩
  · unfold execOp
    simp only [ho, resolve, invoke, builtin, Sem.run_bind, Sem.run_pure, Result.andThen_ok, List.map_toArray, List.map_cons, List.map_nil, ex, ey, hrun]
  · have := Rel.own (E := env (w.drew.alloc (.cells (Builtin.zeroCells zx.cells m ++ Builtin.zeroCells zx.cells (grownCap w m 0 te - m)) te)) O ((d, .lst te sz (List.replicate m z)) :: s.heap) (fun k => if k = d then .slice (some ⟨w.heap.size, 0, none⟩) m (grownCap w m 0 te) else loc k)) d (.lst te sz (List.replicate m z)) (look_eq d _ _) rfl ⟨some ⟨w.heap.size, 0, none⟩, m, grownCap w m 0 te, if_pos rfl⟩
    simpa [env] using this
theorem flat_zeros {E : Env} {zx : Value} {z : V} {sz : Nat} (hzc : RelL E zx.cells.toList z.cells) (hzs : zx.cells.size = sz) (hzl : z.cells.length = sz) (m : Nat) : Flat E (fun k => (Builtin.zeroCells zx.cells m).toList.getD k undef) sz (List.replicate m z) := by
  have hget : ∀ i, i < m → (List.replicate m z).getD i .any = z := fun i hi => by simp [List.getD_eq_getElem?_getD, hi]
  refine ⟨fun i hi => by rw [List.length_replicate] at hi; rw [hget i hi]; exact hzl, fun i j hi hj => ?_⟩
  rw [List.length_replicate] at hi
  rw [hget i hi]
  have hb : i * sz + j < m * sz := by
    have : (i + 1) * sz ≤ m * sz := Nat.mul_le_mul_right _ hi
    rw [Nat.add_mul] at this; omega
  have hmod : (i * sz + j) % sz = j := by rw [Nat.mul_comm, Nat.mul_add_mod, Nat.mod_eq_of_lt hj]
  have hjz : j < zx.cells.size := by omega
  have g1 : zx.cells[j]! = zx.cells[j] := getElem!_pos zx.cells j hjz
  have e : (Builtin.zeroCells zx.cells m).toList.getD (i * sz + j) undef = zx.cells.toList.getD j undef := by
    have g2 : zx.cells[j]?.getD undef = zx.cells[j] := by simp [hjz]
    simp [Builtin.zeroCells, List.getD_eq_getElem?_getD, hb, hzs, hmod, g1]
    exact g2.symm
  simp only [e]
  exact hzc.getD j
theorem Flat.take {E : Env} {xs : List Value} {sz : Nat} {es : List V} (h : Flat E (fun k => xs.getD k undef) sz es) (n : Nat) : Flat E (fun k => (xs.take (n * sz)).getD k undef) sz (es.take n) := by
  refine ⟨fun i hi => ?_, fun i j hi hj => ?_⟩
  · have hi' : i < n ∧ i < es.length := by simp at hi; omega
    rw [getD_take hi'.1]; exact h.1 i hi'.2
  · have hi' : i < n ∧ i < es.length := by simp at hi; omega
    have hb : i * sz + j < n * sz := by
      have : (i + 1) * sz ≤ n * sz := Nat.mul_le_mul_right _ hi'.1
      rw [Nat.add_mul] at this; omega
    simp only [getD_take hi'.1, getD_take hb]
    exact h.2 i j hi'.2 hj
theorem Flat.drop {E : Env} {xs : List Value} {sz : Nat} {es : List V} (h : Flat E (fun k => xs.getD k undef) sz es) (n : Nat) : Flat E (fun k => (xs.drop (n * sz)).getD k undef) sz (es.drop n) := by
  refine ⟨fun i hi => ?_, fun i j hi hj => ?_⟩
  · rw [getD_drop]; exact h.1 _ (by simp at hi; omega)
  · simp only [getD_drop]
    have := h.2 (n + i) j (by simp at hi; omega) hj
    rwa [Nat.add_mul, Nat.add_assoc] at this
theorem Flat.app {E : Env} {xs ys : List Value} {sz : Nat} {es ns : List V} (h : Flat E (fun k => xs.getD k undef) sz es) (hx : xs.length = es.length * sz) (k : Flat E (fun k => ys.getD k undef) sz ns) : Flat E (fun k => (xs ++ ys).getD k undef) sz (es ++ ns) :=
  Flat.append h hx k fun _ _ _ _ hr => hr
theorem dataL_take {es : List V} (h : V.dataL es = true) (n : Nat) : V.dataL (es.take n) = true := by
  rw [V.dataL_iff] at h ⊢; exact fun v hv => h v (List.mem_of_mem_take hv)
theorem dataL_drop {es : List V} (h : V.dataL es = true) (n : Nat) : V.dataL (es.drop n) = true := by
  rw [V.dataL_iff] at h ⊢; exact fun v hv => h v (List.mem_of_mem_drop hv)
theorem dataL_rep {z : V} (h : z.data = true) (n : Nat) : V.dataL (List.replicate n z) = true := by
  rw [V.dataL_iff]; intro v hv; rw [(List.mem_replicate.1 hv).2]; exact h
theorem zv_data {t : TypeId} {z : V} (hz : zv P t = some z) : z.data = true := by
  unfold zv at hz
  cases hi : P.info? t with
  | none => rw [hi] at hz; cases hz
  | some i =>
    rw [hi] at hz
    cases hx : i.zero with
    | none => simp [hx] at hz
    | some zx =>
      simp only [hx, Option.map_some, Option.some.injEq] at hz
      subst hz
      cases zx <;> simp [ofZero, V.data]
      rw [V.dataL_iff]
      intro v hv
      obtain ⟨y, _, rfl⟩ := List.mem_map.1 hv
      rfl
theorem vw_at {H : Heap} {vs : List V} {xs : List Value} (S : SimAt w0 O M H loc vs xs w) {x : Value} {id off len cap : Nat} {te : TypeId} {sz : Nat} {es : List V} (hr : Rel (env w O H loc) x (.vw id off len cap)) (hl : look H id = some (.row te sz es)) :
    ∃ g arr, x = .slice (some ⟨g, off * sz, none⟩) len cap ∧ loc id = .slice (some ⟨g, 0, none⟩) es.length es.length ∧ w.heap[g]? = some (.cells arr te (0, 0)) ∧ arr.size = es.length * sz ∧ es.length ≤ maxLen ∧ (0 < sz ∧ V.dataL es = true) ∧ len ≤ cap ∧
      Flat (env w O H loc) (fun k => arr.toList.getD k undef) sz es := by
  obtain ⟨ob, g, ex, a1, a2, a3, a4⟩ := hr.vw_inv
  have eo : ob = .row te sz es := by have a1' : look H id = some ob := a1; rw [hl] at a1'; exact (Option.some.inj a1').symm
  subst eo
  obtain ⟨hz, g', arr, el, hg, hsz, hmx, hfx⟩ := S.objs id _ hl
  have el' : loc id = .slice (some ⟨g', 0, none⟩) es.length es.length := el
  have a3' : blk (loc id) = some g := a3
  rw [el'] at a3'
  have : g' = g := by simpa [blk] using a3'
  subst this
  refine ⟨g', arr, ex, el', hg, hsz, hmx, hz, a4, hfx.1, fun i j hi hj => ?_⟩
  have := hfx.2 i j hi hj
  simpa [Array.getD_eq_getD_getElem?, List.getD_eq_getElem?_getD] using this
theorem srcV_sound (S : SimAt w0 O M s.heap loc s.slots a.tmps.toList w) {t : TypeId} {sz : Nat} {x : V} {xv : Value} {ns : List V} (h : srcV P t sz s.heap x ns) (hr : Rel (env w O s.heap loc) xv x) :
    ∃ e, SrcOK (env w O s.heap loc) xv sz ns ∧ P.underlying t = some (.slice e) := by
  obtain ⟨hs, h⟩ := h
  obtain ⟨⟨te, s', by_⟩, ht⟩ := Option.isSome_iff_exists.1 hs
  rcases h with ⟨f, rfl, hst⟩ | ⟨id, off, len, cap, te', es, rfl, hl, hb, rfl⟩
  · obtain ⟨ns', e, hK, h1, h2⟩ := src_sound (P := P) (t := t) (sz := sz) (x := .sl f ns) (K := fun l => l = ns) (E := env w O s.heap loc) (H := s.heap) rfl ⟨hs, hst, rfl⟩ hr S.objs
    subst hK
    exact ⟨e, h1, h2⟩
  · refine ⟨_, ?_, (slv_run ht).1⟩
    obtain ⟨g, arr, ex, el, hg, hsz, hmx, ⟨hz, hd⟩, hlc, hf⟩ := vw_at S hr hl
    have hlen : ((es.drop off).take len).length = len := by rw [List.length_take, List.length_drop]; omega
    have hal : arr.toList.length = es.length * sz := by rw [Array.length_toList, hsz]
    have hm : (off + len) * sz ≤ es.length * sz := Nat.mul_le_mul_right _ hb
    rw [Nat.add_mul] at hm
    refine ⟨some ⟨g, off * sz, none⟩, cap, (arr.toList.drop (off * sz)).take (len * sz), by rw [hlen]; exact ex, by rw [hlen, List.length_take, List.length_drop, hal]; omega, (hf.drop off).take len, dataL_take (dataL_drop hd _) _, fun _ => ⟨_, rfl, fun j u hu => ?_⟩⟩
    rw [List.getElem?_take] at hu
    split at hu
    · rw [List.getElem?_drop] at hu
      rw [addr_add]
      show w.cell? _ = _
      rw [cell_of_row w g _ arr te' (0, 0) hg]
      simpa using hu
    · cases hu
theorem cp_sound {t t' : TypeId} {x y : Operand} {K : V → St → Prop} (ho : o.op = .call { callee := .builtin .copy, args := #[x, y], argTypes := #[t, t'] }) (h : cpK P s t t' (ev s.slots x) (ev s.slots y) K) (S : SimAt w0 O M s.heap loc s.slots a.tmps.toList w) : Steps1 P w0 O M a w o K := by
  obtain ⟨te, te', sz, by_, id, off, len, cap, es, ns, n, ht, hx, hob, hoff, hsrc, hn, hsto, hK⟩ := h
  obtain ⟨hu, ie, hie, his, hib⟩ := slv_run ht
  have hxr := ev_rel S.vals x
  rw [hx] at hxr
  obtain ⟨g, arr, ex, el, hg, hsz, hmx, ⟨hz, hdes⟩, hlc, hfx⟩ := vw_at S hxr hob
  obtain ⟨e', ⟨ad, c, news, ey, hl, hf, hd, hcell⟩, hu'⟩ := srcV_sound S hsrc (ev_rel S.vals y)
  have hn1 : n ≤ ns.length := by omega
  have hn2 : n ≤ len := by omega
  have hnm1 : n * sz ≤ ns.length * sz := Nat.mul_le_mul_right _ hn1
  have hcl : (news.take (n * sz)).length = n * sz := by rw [List.length_take]; omega
  have hfn := hf.take n
  have hone := src_one (sz := sz) (by rw [hcl, List.length_take, Nat.min_eq_left hn1]) hz hfn hsto
  have hm1 : (off + n) * sz ≤ es.length * sz := Nat.mul_le_mul_right _ (by omega)
  have hm2 := Nat.add_mul off n sz
  have hst := run_storeCells_at P g (off * sz) te' (news.take (n * sz)) 0 arr w hg (by rw [hcl, hsz]; omega) hone
  rw [Nat.add_zero, hcl, ← hm2, List.append_assoc] at hst
  have hal : arr.toList.length = es.length * sz := by rw [Array.length_toList, hsz]
  have hdat : V.dataL (es.take off ++ (ns.take n ++ es.drop (off + n))) = true := by
    rw [V.dataL_append, V.dataL_append, Bool.and_eq_true, Bool.and_eq_true]
    exact ⟨dataL_take hdes _, dataL_take hd _, dataL_drop hdes _⟩
  have hlen : (es.take off ++ (ns.take n ++ es.drop (off + n))).length = es.length := by simp; omega
  have hto : (arr.toList.take (off * sz)).length = (es.take off).length * sz := by
    rw [List.length_take, List.length_take, hal, Nat.min_eq_left (show off ≤ es.length by omega)]
    exact Nat.min_eq_left (by omega)
  have hF : Flat (env w O s.heap loc) (fun k => (arr.toList.take (off * sz) ++ (news.take (n * sz) ++ arr.toList.drop ((off + n) * sz))).getD k undef) sz (es.take off ++ (ns.take n ++ es.drop (off + n))) :=
    (hfx.take off).app hto (hfn.app (by rw [hcl, List.length_take, Nat.min_eq_left hn1]) (hfx.drop (off + n)))
  generalize hnew : arr.toList.take (off * sz) ++ (news.take (n * sz) ++ arr.toList.drop ((off + n) * sz)) = new at hst hF
  have hnl : new.length = es.length * sz := by
    rw [← hnew, List.length_append, List.length_append, hcl, List.length_drop, List.length_take, hal]; omega
  have halk : (Obj.row te' sz (es.take off ++ (ns.take n ++ es.drop (off + n)))).alike (.row te' sz es) := ⟨rfl, rfl, hlen⟩
  obtain ⟨k1, k2⟩ := S.write id _ (.row te' sz (es.take off ++ (ns.take n ++ es.drop (off + n)))) hob halk (g := g) (by rw [el]; rfl) (setRow_ext w g new.toArray) (fun hrel => by
    refine ⟨⟨hz, hdat⟩, g, new.toArray, by rw [hlen]; exact el, setRow_heap w g arr _ te' (0, 0) hg, by rw [hlen, List.size_toArray, hnl], by rw [hlen]; exact hmx, hF.1, fun i j hi hj => ?_⟩
    have := hrel _ _ (hF.2 i j hi hj)
    simpa [Array.getD_eq_getD_getElem?, List.getD_eq_getElem?_getD] using this)
  refine ⟨_, _, .sc (.int .i64 n), _, loc, ?_, .inl ⟨.int .i64 n, rfl, .sc _⟩, hK, k1⟩
  have hfc : (Builtin.firstCells sz n (.slice ad ns.length c)).run P w = .ok (news.take (n * sz)).toArray w := by
    rcases Nat.eq_zero_or_pos n with h0 | h0
    · rw [h0]; cases ad <;> simp [Builtin.firstCells, loadCells, loadCellsFrom]
    · obtain ⟨b, rfl, hb⟩ := hcell (by rintro rfl; simp at hn1; omega)
      exact run_firstCells_some (P := P) w sz n b _ _ _ hcl (fun j u hju => hb j u (by
        rw [List.getElem?_take] at hju
        split at hju
        · exact hju
        · cases hju))
  have hszr : (sizeOf te).run P w = .ok sz w := by simp [sizeOf, typeInfo, hie, his]
  have hst' : (storeCells ⟨g, off * sz, none⟩ (news.take (n * sz)).toArray.toList).run P w = .ok () (w.setRow g new.toArray) := by simpa using hst
  have hmin : Nat.min ns.length len = n := hn.symm
  unfold execOp
  simp only [ho, resolve, invoke, builtin, Sem.run_bind, Sem.run_pure, Result.andThen_ok, List.map_toArray, List.map_cons, List.map_nil, ex, ey]
  simp only [Builtin.copy_, Sem.run_bind, run_underlying hu, Result.andThen_ok, List.getElem?_toArray, List.getElem?_cons_zero, List.getElem?_cons_succ, Builtin.lenOf, Sem.run_pure, hmin, hszr, hfc, hst']
  simp [goInt]
theorem run_append_zeros_grow {P : Program} {w : World} (t u ty e : TypeId) (i : TypeInfo) (z : Value) (ht : P.underlying t = some (.slice e)) {ik : IntKind} (hu : P.underlying u = some (.int ik)) (hi : P.info? e = some i) (hz : i.zero = some z)
    (b : Addr) (sLen sCap : Nat) (olds : List Value) (hlo : olds.length = sLen * i.size) (holds : ∀ j v, olds[j]? = some v → w.cell? (b.add j) = some v)
    (k : IntKind) (n : Nat) (h0 : 0 < n) (hs : 0 < i.size) (hg : sCap < sLen + n) (h63 : sLen + n ≤ 140737488355328) (hb : (sLen + n) * i.bytes ≤ 140737488355328) :
    (Builtin.append_ #[t, u] ty #[.slice (some b) sLen sCap, .int k n]).run P w =
      .ok (.slice (some ⟨w.heap.size, 0, none⟩) (sLen + n) (grownCap w (sLen + n) sCap e)) (w.drew.alloc (.cells (olds.toArray ++ Builtin.zeroCells z.cells n ++ Builtin.zeroCells z.cells (grownCap w (sLen + n) sCap e - (sLen + n))) e)) := by
  have hn : n ≠ 0 := by omega
  have hns : n * i.size ≠ 0 := Nat.ne_of_gt (Nat.mul_pos h0 hs)
  have wl : IntKind.i64.wrap (n : Int) = n := by rw [IntKind.wrap_i64]; omega
  have n1 : ¬ ((n : Int) < 0) := by omega
  have hnb : n * i.bytes ≤ 140737488355328 := Nat.le_trans (Nat.mul_le_mul_right _ (Nat.le_add_left _ _)) hb
  have n2 : ¬ (281474976710656 < (n : Int) * (i.bytes : Int)) := by
    have : ((n * i.bytes : Nat) : Int) ≤ 140737488355328 := by omega
    rw [Int.natCast_mul] at this; omega
  have hgr : ¬ (sLen + n ≤ sCap) := by omega
  have h63' : ¬ (9223372036854775807 < ((sLen : Int) + (n : Int))) := by omega
  have hfit : Builtin.nextslicecap (sLen + n) sCap * i.bytes ≤ 281474976710656 := growslice_fits (by omega) hb
  have h48' : ¬ (281474976710656 < Builtin.nextslicecap (sLen + n) sCap * i.bytes) := by omega
  have hfo := run_firstCells_some (P := P) w.drew i.size sLen b sLen sCap olds hlo (by simpa using holds)
  simp [Builtin.append_, run_underlying ht, run_underlying hu, asInt, asIntOf, sizeOf, typeInfo, zeroValue, hi, hz, wl, n1, n2, hn, hns, hgr, h63', h48', Question.forced, hfo, newRow, grownCap]
theorem zap_sound {t t' te : TypeId} {sz by_ : Nat} {x y : Operand} {K : V → St → Prop} (ho : o.op = .call { callee := .builtin .append, args := #[x, y], argTypes := #[t, t'] }) (ht : slv P t = some (te, sz, by_))
    (h : zapK P s o.dst t' te sz by_ (ev s.slots x) (ev s.slots y) K) (S : SimAt w0 O M s.heap loc s.slots a.tmps.toList w) : Steps1 P w0 O M a w o K := by
  obtain ⟨ik, k, m, id, off, len, cap, te', es, z, hut, hy, hx, hob, hoff, ⟨h0, hcap, hb1, hb2⟩, hz, ⟨hzl, hzo⟩, h⟩ := h
  obtain ⟨d, hdst, hfree, hK⟩ := free_elim h
  obtain ⟨hu, ie, hie, his, hib⟩ := slv_run ht
  obtain ⟨i2, zx, hi2, hzx, hzr⟩ := zv_rel hz (env w O s.heap loc)
  rw [hie] at hi2; cases hi2
  have hzc := hzr.cells hzo
  have hzs : zx.cells.size = sz := by have := hzc.1; rw [Array.length_toList] at this; omega
  have hxr := ev_rel S.vals x
  have hyr := ev_rel S.vals y
  rw [hy] at hyr
  rw [hx] at hxr
  have ey := Rel.sc_iff.1 hyr
  obtain ⟨g, arr, ex, el, hg, hsz, hmx, ⟨hzp, hdes⟩, hlc, hfx⟩ := vw_at S hxr hob
  have hal : arr.toList.length = es.length * sz := by rw [Array.length_toList, hsz]
  have hm : (off + len) * sz ≤ es.length * sz := Nat.mul_le_mul_right _ hoff
  rw [Nat.add_mul] at hm
  have hol : ((arr.toList.drop (off * sz)).take (len * sz)).length = len * sz := by rw [List.length_take, List.length_drop, hal]; omega
  have helen : ((es.drop off).take len).length = len := by rw [List.length_take, List.length_drop]; omega
  have hrun := run_append_zeros_grow (P := P) (w := w) t t' o.type te ie zx hu hut hie hzx ⟨g, off * sz, none⟩ len cap ((arr.toList.drop (off * sz)).take (len * sz)) (by rw [hol, his]) (fun j v hj => by
    rw [List.getElem?_take] at hj
    split at hj
    · rw [List.getElem?_drop] at hj
      rw [addr_add, cell_of_row w g _ arr te' (0, 0) hg]
      simpa using hj
    · cases hj) k m h0 (by rw [his]; exact hzp) hcap hb2 (by rw [hib]; exact hb1)
  generalize hc : grownCap w (len + m) cap te = c at hrun
  have hc1 : len + m ≤ c := hc ▸ grownCap_ge w (len + m) cap te
  have hc2 : c ≤ maxLen := hc ▸ grownCap_le_maxLen w _ _ _ (by simp only [maxLen]; omega)
  generalize holds : (arr.toList.drop (off * sz)).take (len * sz) = olds at hrun hol
  have hfo : Flat (env w O s.heap loc) (fun k => olds.getD k undef) sz ((es.drop off).take len) := by rw [← holds]; exact (hfx.drop off).take len
  have hF : Flat (env w O s.heap loc) (fun k => (olds ++ ((Builtin.zeroCells zx.cells m).toList ++ (Builtin.zeroCells zx.cells (c - (len + m))).toList)).getD k undef) sz ((es.drop off).take len ++ (List.replicate m z ++ List.replicate (c - (len + m)) z)) :=
    hfo.app (by rw [hol, helen]) ((flat_zeros hzc hzs hzl m).app (by rw [Array.length_toList, size_zeroCells, hzs, List.length_replicate]) (flat_zeros hzc hzs hzl _))
  rw [List.replicate_append_replicate, show m + (c - (len + m)) = c - len by omega] at hF
  have hlen : ((es.drop off).take len ++ List.replicate (c - len) z).length = c := by rw [List.length_append, helen, List.length_replicate]; omega
  have hdat : V.dataL ((es.drop off).take len ++ List.replicate (c - len) z) = true := by
    rw [V.dataL_append, Bool.and_eq_true]; exact ⟨dataL_take (dataL_drop hdes _) _, dataL_rep (zv_data hz) _⟩
  have hgr : Grows w (w.drew.alloc (.cells (olds.toArray ++ Builtin.zeroCells zx.cells m ++ Builtin.zeroCells zx.cells (c - (len + m))) te)) := drew_alloc_ext w _ _
  obtain ⟨k1, k2⟩ := S.new d hfree hgr (.slice (some ⟨w.heap.size, 0, none⟩) c c) (.row te sz ((es.drop off).take len ++ List.replicate (c - len) z)) (by intro b hb; simp [blk] at hb; omega) (fun hrel => by
    refine ⟨⟨hzp, hdat⟩, w.heap.size, _, by rw [hlen]; exact if_pos rfl, heap_alloc_new w.drew _, ?_, by rw [hlen]; exact hc2, hF.1, fun i j hi hj => ?_⟩
    · rw [hlen, Array.size_append, Array.size_append, List.size_toArray, hol, size_zeroCells, size_zeroCells, hzs, ← Nat.add_mul, ← Nat.add_mul]; congr 1; omega
    · have := hrel _ _ (hF.2 i j hi hj)
      simpa [Array.getD_eq_getD_getElem?, List.getD_eq_getElem?_getD, ← Array.getElem?_toList] using this)
  refine ⟨.value (.slice (some ⟨w.heap.size, 0, none⟩) (len + m) c), _, .vw d 0 (len + m) c, _, _, ?_, .inl ⟨_, rfl, ?_⟩, hK c hc1, k1⟩
  · unfold execOp
    simp only [ho, resolve, invoke, builtin, Sem.run_bind, Sem.run_pure, Result.andThen_ok, List.map_toArray, List.map_cons, List.map_nil, ex, ey, hrun]
  · have := Rel.vw (E := env (w.drew.alloc (.cells (olds.toArray ++ Builtin.zeroCells zx.cells m ++ Builtin.zeroCells zx.cells (c - (len + m))) te)) O ((d, .row te sz ((es.drop off).take len ++ List.replicate (c - len) z)) :: s.heap) (fun k => if k = d then .slice (some ⟨w.heap.size, 0, none⟩) c c else loc k)) d 0 (len + m) c _ w.heap.size (look_eq d _ _) rfl (by show blk (if d = d then _ else _) = _; rw [if_pos rfl]; rfl) hc1
    simpa using this
theorem op_slice {K : V → St → Prop} {t : TypeId} {x : Operand} {lo hi mx : Option Operand} (ho : o.op = .slice t x lo hi mx) (h : opK P o s K) (S : SimAt w0 O M s.heap loc s.slots a.tmps.toList w) : Steps1 P w0 O M a w o K := by
  simp only [opK, ho] at h
  rcases h with h | ⟨te, sz, by_, id, te', es, k, l, ht, hlo, hmx, hhi, hx, hob, hl, hK⟩ | ⟨te, sz, by_, k, ht, hlo, hmx, hhi, hx, hK⟩
  · exact Steps1.val ho h S
  rotate_left
  · obtain ⟨hu, hsz⟩ := slice_run ht
    have hρ := fun y => ev_rel S.vals y
    have hxr := hρ x
    rw [hx] at hxr
    have ex := Rel.sc_iff.1 hxr
    refine ⟨.value (.slice none 0 0), w, .sc (.slice none 0 0), s, loc, ?_, .inl ⟨_, rfl, .sc _⟩, hK, S⟩
    unfold execOp
    simp only [ho, ex]
    have e1 := opt_none (ρ := a.eval) hlo
    have e2 := opt_rel (ρ := a.eval) hρ hhi
    have e3 := opt_none (ρ := a.eval) hmx
    simp only [e1, e2, e3]
    refine run_lift ?_
    rw [run_sliceAt_slice w t _ _ _ _ hu, run_slice_h w t _ _ _ hu k 0 (Int.le_refl _) (by simp), hsz]
    simp [sliced]
  · obtain ⟨hu, hsz⟩ := slice_run ht
    have hρ := fun y => ev_rel S.vals y
    have hxr := hρ x
    rw [hx] at hxr
    obtain ⟨ex, _⟩ := hxr.own_inv
    obtain ⟨⟨hz, hdes⟩, xs, hown, hfx⟩ := S.objs id _ hob
    have hdat : V.dataL (es.take l.toNat) = true := by
      rw [V.dataL_iff] at hdes ⊢; exact fun v hv => hdes v (List.mem_of_mem_take hv)
    have hlen : (es.take l.toNat).length = l.toNat := by rw [List.length_take]; omega
    have key : ∀ v', (Instr.sliceAt t (loc id) none (some (.int k l)) none).run P w = .ok v' w → w.ownsRow 0 te' sz v' l.toNat (xs.take (l.toNat * sz)) → (∀ b, blk v' = some b → blk (loc id) = some b) → (∃ bb n cc, v' = .slice bb n cc) → Steps1 P w0 O M a w o K := by
      intro v' hrun hown' hblk hsl
      obtain ⟨k1, k2⟩ := S.renew id _ (.lst te' sz (es.take l.toNat)) hob (Ext.refl w _) v' (fun b hb => .inr (hblk b hb)) (fun hrel => by
        refine ⟨⟨hz, hdat⟩, xs.take (l.toNat * sz), ?_, ?_⟩
        · show w.ownsRow 0 te' sz (if id = id then v' else loc id) _ _
          rw [if_pos rfl, hlen]; exact hown'
        · refine ⟨fun i hi => ?_, fun i j hi hj => ?_⟩
          · rw [hlen] at hi
            rw [getD_take hi]; exact hfx.1 i (by omega)
          · rw [hlen] at hi
            have hb : i * sz + j < l.toNat * sz := by
              have : (i + 1) * sz ≤ l.toNat * sz := Nat.mul_le_mul_right _ hi
              rw [Nat.add_mul] at this; omega
            simp only [getD_take hi, getD_take hb]
            exact hrel _ _ (V.data_getD_cells hdes i j) (hfx.2 i j (by omega) hj))
      refine ⟨.value v', w, .own id, _, _, ?_, .inl ⟨v', rfl, ?_⟩, hK, k1⟩
      · unfold execOp
        simp only [ho, ex]
        have e1 := opt_none (ρ := a.eval) hlo
        have e2 := opt_rel (ρ := a.eval) hρ hhi
        have e3 := opt_none (ρ := a.eval) hmx
        simp only [e1, e2, e3]
        exact run_lift hrun
      · have := Rel.own (E := env w O (updK id (.lst te' sz (es.take l.toNat)) s.heap) (fun k => if k = id then v' else loc k)) id (.lst te' sz (es.take l.toNat)) (by show look _ id = _; rw [look_updK, if_pos rfl, hob]; rfl) rfl (by
          obtain ⟨bb, n, cc, e⟩ := hsl; exact ⟨bb, n, cc, by rw [← e]; exact if_pos rfl⟩)
        simpa [env] using this
    rcases hown.2 with ⟨e, h0⟩ | ⟨g, cap, cur, e, q1, hg, q2, q3, q4, q5⟩
    · have hes : es = [] := List.eq_nil_of_length_eq_zero h0
      subst hes
      obtain rfl : l = 0 := by simp at hl; omega
      have e' : loc id = .slice none 0 0 := e
      refine key (.slice none 0 0) ?_ ?_ (fun b hb => by simp [blk] at hb) ⟨_, _, _, rfl⟩
      · rw [e', run_sliceAt_slice w t _ _ _ _ hu, run_slice_h w t _ _ _ hu k 0 (Int.le_refl _) (by simp), hsz]
        simp [sliced]
      · exact World.ownsRow_nil w 0 te' sz |> fun h => by simpa using h
    · have e' : loc id = .slice (some ⟨g, 0, none⟩) es.length cap := e
      refine key (.slice (some ⟨g, 0, none⟩) l.toNat cap) ?_ ?_ (fun b hb => by rw [e']; exact hb) ⟨_, _, _, rfl⟩
      · rw [e', run_sliceAt_slice w t _ _ _ _ hu, run_slice_h w t _ _ _ hu k l hl.1 (by omega), hsz]
        simp only [Result.andThen_ok, sliced]
        by_cases hc : cap = 0
        · have : l.toNat = 0 := by omega
          simp [hc, this]
        · simp [hc, Addr.add]
      · refine ⟨by rw [List.length_take, hown.1]; exact Nat.min_eq_left (Nat.mul_le_mul_right _ (by omega)), .inr ⟨g, cap, cur, rfl, Nat.zero_le _, hg, by omega, q3, q4, ?_⟩⟩
        rw [← q5, List.take_take, Nat.min_eq_left (Nat.mul_le_mul_right _ (by omega))]
theorem op_append {K : V → St → Prop} {args : Array Operand} {argTypes : Array TypeId} (ho : o.op = .call { callee := .builtin .append, args, argTypes }) (h : opK P o s K) (S : SimAt w0 O M s.heap loc s.slots a.tmps.toList w) : Steps1 P w0 O M a w o K := by
  simp only [opK, ho] at h
  split at h
  · rename_i x y t t' hargs htys
    have ea : args = #[x, y] := by cases args; simp_all
    have et : argTypes = #[t, t'] := by cases argTypes; simp_all
    subst ea; subst et
    split at h
    · rename_i te sz by_ ht
      rcases h with (h | h) | h
      · obtain ⟨ik, k, n, z, hut, ey, exn, ⟨h0, hb1, hb2, hsz⟩, hz, ⟨hzl, hzo⟩, h⟩ := h
        obtain ⟨d, hdst, hfree, hK⟩ := free_elim h
        have hx := ev_rel S.vals x
        have hy := ev_rel S.vals y
        rw [exn] at hx; rw [ey] at hy
        exact zeros_sound ho ht hut (Rel.sc_iff.1 hx) (Rel.sc_iff.1 hy) h0 hb1 hb2 hsz hz hzl hzo hfree hK S
      · exact zap_sound ho ht h S
      obtain ⟨hz, hzok, hsrc⟩ := h
      obtain ⟨hu, ie, hie, his, hib⟩ := slv_run ht
      obtain ⟨i2, zx, hi2, hzx, hzs⟩ := zok_run hzok
      rw [hie] at hi2; cases hi2
      obtain ⟨ns, e', ⟨hsto, h⟩, ⟨ad, c, news, ey, hl, hf, hd, hcell⟩, hu'⟩ := src_sound (E := env w O s.heap loc) rfl hsrc (ev_rel S.vals y) S.objs
      have hone := src_one hl hz hf hsto
      have hnews : 0 < ns.length → ∃ b, ad = some b ∧ ∀ j u, news[j]? = some u → w.cell? (b.add j) = some u := fun hp => hcell (by rintro rfl; simp at hp)
      have hx := ev_rel S.vals x
      have exec : ∀ {bb : Option Addr} {n cc : Nat} {v' : Value} {w' : World}, a.eval x = .slice bb n cc → (Builtin.append_ #[t, t] o.type #[.slice bb n cc, .slice ad ns.length c]).run P w = .ok v' w' →
          (execOp a.eval o).run P w = .ok (.value v') w' := by
        intro bb n cc v' w' hbb hrun
        unfold execOp
        simp only [ho, resolve, invoke, builtin, Sem.run_bind, Sem.run_pure, Result.andThen_ok, List.map_toArray, List.map_cons, List.map_nil, hbb, ey, append_types hu hie hu', hrun]
      split at h
      · rename_i id hid
        rw [hid] at hx
        obtain ⟨ex, _⟩ := hx.own_inv
        split at h
        · rename_i te' sz' es hob
          obtain ⟨rfl, rfl, hb1, hb2, hK⟩ := h
          obtain ⟨⟨_, hdes⟩, xs, hown, hfx⟩ := S.objs id _ hob
          obtain ⟨v', w', h1, h2, h3, h4⟩ := app_own (ty := o.type) hu hie hzx his hib hzs hz hown hl hnews hone hb1 hb2 (c := c)
          have hsl : ∃ bb n cc, a.eval x = .slice bb n cc := by
            rw [ex]
            rcases hown.2 with ⟨e, _⟩ | ⟨g, cap, cur, e, _⟩ <;> exact ⟨_, _, _, e⟩
          obtain ⟨bb, n, cc, hbb⟩ := hsl
          have hloc : loc id = .slice bb n cc := by rw [← hbb]; exact ex.symm
          have h1' : (Builtin.append_ #[t, t] o.type #[.slice bb n cc, .slice ad ns.length c]).run P w = .ok v' w' := by
            rw [← hloc]; exact h1
          have hdat : V.dataL (es ++ ns) = true := by rw [V.dataL_append, hdes, hd]; rfl
          obtain ⟨k1, k2⟩ := S.renew id _ (.lst te' sz' (es ++ ns)) hob h3 v' h4 (fun hrel => by
            refine ⟨⟨hz, hdat⟩, xs ++ news, ?_, ?_⟩
            · show w'.ownsRow 0 te' sz' (if id = id then v' else loc id) _ _
              rw [if_pos rfl, List.length_append]; exact h2
            · have hf' : Flat (env w' O (updK id (.lst te' sz' (es ++ ns)) s.heap) (fun k => if k = id then v' else loc k)) (fun k => news.getD k undef) sz' ns :=
                ⟨hf.1, fun i j hi hj => hrel _ _ (V.data_getD_cells hd i j) (hf.2 i j hi hj)⟩
              exact Flat.append hfx hown.1 hf' (fun i j hi hj hr => hrel _ _ (V.data_getD_cells hdes i j) hr))
          refine ⟨_, w', .own id, _, _, exec hbb h1', .inl ⟨v', rfl, ?_⟩, hK, k1⟩
          have hobj' := k1.objs id _ (by rw [look_updK, if_pos rfl, hob]; rfl)
          have hv' : ∃ a n c, (env w' O (updK id (.lst te' sz' (es ++ ns)) s.heap) (fun k => if k = id then v' else loc k)).loc id = .slice a n c := by
            rcases blk_own hobj' with ⟨g, c, e, _⟩ | ⟨e, _⟩ <;> exact ⟨_, _, _, e⟩
          have := Rel.own (E := env w' O (updK id (.lst te' sz' (es ++ ns)) s.heap) (fun k => if k = id then v' else loc k)) id (.lst te' sz' (es ++ ns)) (by show look _ id = _; rw [look_updK, if_pos rfl, hob]; rfl) rfl hv'
          simpa [env] using this
        · exact h.elim
      · rename_i es hid
        rw [hid] at hx
        obtain ⟨hst, hb1, hb2, hK1, hK2⟩ := h
        obtain ⟨od, cc, ex, hc1, hc2, hc3⟩ := rel_sl_len hx
        have hcc : cc = es.length := hc3 rfl
        subst hcc
        by_cases hns : ns = []
        · subst hns
          have hn : news = [] := List.eq_nil_of_length_eq_zero (by simpa using hl)
          have hrun : (Builtin.append_ #[t, t] o.type #[.slice od es.length es.length, .slice ad 0 c]).run P w = .ok (.slice od es.length es.length) w := by
            cases od <;> cases ad <;> simp [Builtin.append_, run_underlying hu, sizeOf, typeInfo, hie, Builtin.lenOf, Builtin.firstCells, loadCells, loadCellsFrom, storeCells]
          refine ⟨_, w, _, s, loc, exec ex hrun, .inl ⟨_, rfl, by rw [← ex]; exact hx⟩, hK1 rfl, S⟩
        · obtain ⟨d, hdst, hfree, hK⟩ := free_elim (hK2 hns)
          have hpos : 0 < ns.length := List.length_pos_iff.2 hns
          -- the old elements as a source
          have hsx : srcK P t sz s.heap (.sl true es) (fun l => l = es) := ⟨by rw [ht]; rfl, hst, rfl⟩
          obtain ⟨es', e'', rfl, ⟨od', c', olds, ex', hlo, hfo, hdo, hco⟩, _⟩ := src_sound (E := env w O s.heap loc) rfl hsx hx S.objs
          have hod : od' = od := by rw [ex] at ex'; cases ex'; rfl
          subst hod
          obtain ⟨v', w', h1, h2, h3, h4⟩ := app_full (ty := o.type) hu hie hzx his hib hzs hlo (fun hp => hco (by rintro rfl; simp at hp)) hl hnews hpos hb1 hb2 (c := c)
          have hdat : V.dataL (es' ++ ns) = true := by rw [V.dataL_append, hdo, hd]; rfl
          obtain ⟨k1, k2⟩ := S.new d hfree h3 v' (.lst te sz (es' ++ ns)) h4 (fun hrel => by
            refine ⟨⟨hz, hdat⟩, olds ++ news, ?_, ?_⟩
            · show w'.ownsRow 0 te sz (if d = d then v' else loc d) _ _
              rw [if_pos rfl, List.length_append]; exact h2
            · exact Flat.append hfo hlo (hf.imp hrel) (fun i j hi hj hr => hrel _ _ hr))
          refine ⟨_, w', .own d, _, _, exec ex h1, .inl ⟨v', rfl, ?_⟩, hK, k1⟩
          have hobj' := k1.objs d _ (look_eq d _ _)
          have hv' : ∃ a n c, (env w' O ((d, .lst te sz (es' ++ ns)) :: s.heap) (fun k => if k = d then v' else loc k)).loc d = .slice a n c := by
            rcases blk_own hobj' with ⟨g, c, e, _⟩ | ⟨e, _⟩ <;> exact ⟨_, _, _, e⟩
          have := Rel.own (E := env w' O ((d, .lst te sz (es' ++ ns)) :: s.heap) (fun k => if k = d then v' else loc k)) d (.lst te sz (es' ++ ns)) (by simp [env, look]) rfl hv'
          simpa [env] using this
      · rename_i hid
        rw [hid] at hx
        have ex := Rel.sc_iff.1 hx
        obtain ⟨hb1, hb2, h⟩ := h
        obtain ⟨d, hdst, hfree, hK⟩ := free_elim h
        obtain ⟨v', w', h1, h2, h3, h4⟩ := app_own (ty := o.type) hu hie hzx his hib hzs hz (World.ownsRow_nil w 0 te sz) hl hnews hone (by simpa using hb1) (by simpa using hb2) (c := c)
        have h3' : Grows w w' := ⟨h3.os, h3.tape, h3.output, h3.size, fun b hb _ => h3.block b hb (by simp [blk])⟩
        obtain ⟨k1, k2⟩ := S.new d hfree h3' v' (.lst te sz ns) (fun b hb => (h4 b hb).resolve_right (by simp [blk])) (fun hrel => by
          refine ⟨⟨hz, hd⟩, news, ?_, hf.imp hrel⟩
          show w'.ownsRow 0 te sz (if d = d then v' else loc d) _ _
          rw [if_pos rfl]; simpa using h2)
        refine ⟨_, w', .own d, _, _, exec ex h1, .inl ⟨v', rfl, ?_⟩, hK, k1⟩
        have hobj' := k1.objs d _ (look_eq d _ _)
        have hv' : ∃ a n c, (env w' O ((d, .lst te sz ns) :: s.heap) (fun k => if k = d then v' else loc k)).loc d = .slice a n c := by
          rcases blk_own hobj' with ⟨g, c, e, _⟩ | ⟨e, _⟩ <;> exact ⟨_, _, _, e⟩
        have := Rel.own (E := env w' O ((d, .lst te sz ns) :: s.heap) (fun k => if k = d then v' else loc k)) d (.lst te sz ns) (by simp [env, look]) rfl hv'
        simpa [env] using this
      · exact h.elim
    · exact h.elim
  · exact h.elim
theorem run_storeRow (g : Nat) {te : TypeId} {cur : Array Value} (hg : w.heap[g]? = some (.cells cur te (0, 0))) {cs : List Value} (hl : cs.length ≤ cur.size) (h1 : ∀ y ∈ cs, y.oneCell' = true) :
    (storeCells ⟨g, 0, none⟩ cs).run P w = .ok () (w.setRow g (cs ++ cur.toList.drop cs.length).toArray) := by
  have := run_storeCells_at P g 0 te cs 0 cur w hg (by simpa using hl) h1
  simpa using this
theorem op_copy {K : V → St → Prop} {args : Array Operand} {argTypes : Array TypeId} (ho : o.op = .call { callee := .builtin .copy, args, argTypes }) (h : opK P o s K) (S : SimAt w0 O M s.heap loc s.slots a.tmps.toList w) : Steps1 P w0 O M a w o K := by
  simp only [opK, ho] at h
  split at h
  · rename_i x y t t' hargs htys
    have ea : args = #[x, y] := by cases args; simp_all
    have et : argTypes = #[t, t'] := by cases argTypes; simp_all
    subst ea; subst et
    rcases h with h | h
    · exact cp_sound ho h S
    split at h
    · rename_i te sz by_ ht
      obtain ⟨hu, ie, hie, his, hib⟩ := slv_run ht
      obtain ⟨ns, e', ⟨hsto, h⟩, ⟨ad, c, news, ey, hl, hf, hd, hcell⟩, hu'⟩ := src_sound (E := env w O s.heap loc) rfl h (ev_rel S.vals y) S.objs
      have hx := ev_rel S.vals x
      split at h
      · rename_i id hid
        rw [hid] at hx
        obtain ⟨ex, _⟩ := hx.own_inv
        split at h
        · rename_i te' sz' es hob
          obtain ⟨rfl, rfl, hK⟩ := h
          obtain ⟨⟨hz, hdes⟩, xs, hown, hfx⟩ := S.objs id _ hob
          have hone := src_one hl hz hf hsto
          generalize hn : min ns.length es.length = n at hK
          have hn1 : n ≤ ns.length := by omega
          have hn2 : n ≤ es.length := by omega
          have hnm1 : n * sz' ≤ ns.length * sz' := Nat.mul_le_mul_right _ hn1
          have hnm2 : n * sz' ≤ es.length * sz' := Nat.mul_le_mul_right _ hn2
          have hmin : Nat.min ns.length es.length = n := hn
          rcases hown.2 with ⟨e, h0⟩ | ⟨g, cap, cur, e, q1, hg, q2, q3, q4, q5⟩
          · -- nothing to write
            have hes : es = [] := List.eq_nil_of_length_eq_zero h0
            subst hes
            have hn0 : n = 0 := by simpa using hn2
            subst hn0
            have e' : loc id = .slice none 0 0 := e
            have hnil : Ext w (fun b => False) w := Ext.refl w _
            -- the object is as it was
            have hup : ∀ k, look (upd s.heap id (.lst te' sz' [])) k = look s.heap k := by
              intro k; rw [look_upd]; by_cases hk : k = id
              · subst hk; rw [if_pos rfl, hob]; simp
              · rw [if_neg hk]
            have henv : env w O (upd s.heap id (.lst te' sz' [])) loc = env w O s.heap loc := by
              unfold env
              simp only [hup]
              congr 1
              funext k; exact hup k
            refine ⟨_, w, .sc (.int .i64 0), _, loc, ?_, .inl ⟨.int .i64 0, rfl, .sc _⟩, by simpa using hK, ?_⟩
            · unfold execOp
              simp only [ho, resolve, invoke, builtin, Sem.run_bind, Sem.run_pure, Result.andThen_ok, List.map_toArray, List.map_cons, List.map_nil, ex, ey]
              have e'' : (env w O s.heap loc).loc id = .slice none 0 0 := e
              rw [e'']
              cases ad <;> simp [Builtin.copy_, run_underlying hu, sizeOf, typeInfo, hie, Builtin.lenOf, Builtin.firstCells, loadCells, loadCellsFrom, goInt]
            · refine ⟨by rw [henv]; exact S.vals, fun k ob hk => ?_, fun k k' b h1 h2 => ?_, fun k b h1 => ?_, S.ext, S.O_lt⟩
              · simp only at hk; rw [hup] at hk; rw [henv]; exact S.objs k ob hk
              · simp only at h1 h2; rw [hup] at h1 h2; exact S.dist k k' b h1 h2
              · simp only at h1; rw [hup] at h1; exact S.own k b h1
          · have el : loc id = .slice (some ⟨g, 0, none⟩) es.length cap := e
            have hcap : es.length * sz' ≤ cap * sz' := Nat.mul_le_mul_right _ q2
            have hxs : xs.length = es.length * sz' := hown.1
            have hcl : (news.take (n * sz')).length = n * sz' := by rw [List.length_take]; omega
            have hst := run_storeRow (P := P) (w := w) g hg (cs := news.take (n * sz')) (by rw [hcl]; omega) (fun u hu => hone u (List.mem_of_mem_take hu))
            rw [hcl] at hst
            have hdat : V.dataL (ns.take n ++ es.drop n) = true := by
              rw [V.dataL_append, Bool.and_eq_true]
              rw [V.dataL_iff] at hd hdes
              exact ⟨V.dataL_iff.2 fun v hv => hd v (List.mem_of_mem_take hv), V.dataL_iff.2 fun v hv => hdes v (List.mem_of_mem_drop hv)⟩
            have hlen : (ns.take n ++ es.drop n).length = es.length := by simp; omega
            have hal : (Obj.lst te' sz' (ns.take n ++ es.drop n)).alike (.lst te' sz' es) := ⟨rfl, rfl⟩
            obtain ⟨k1, k2⟩ := S.write id _ (.lst te' sz' (ns.take n ++ es.drop n)) hob hal (g := g) (by rw [el]; rfl) (setRow_ext w g (news.take (n * sz') ++ cur.toList.drop (n * sz')).toArray) (fun hrel => by
              refine ⟨⟨hz, hdat⟩, news.take (n * sz') ++ xs.drop (n * sz'), ⟨by rw [hlen, List.length_append, hcl, List.length_drop, hxs]; omega, .inr ⟨g, cap, _, by rw [hlen]; exact el, Nat.zero_le _, setRow_heap w g cur _ te' (0, 0) hg, by rw [hlen]; exact q2, q3, ?_, ?_⟩⟩, ?_⟩
              · rw [List.size_toArray, List.length_append, hcl, List.length_drop, Array.length_toList]; omega
              · rw [hlen, ← q5]
                simp only [List.toList_toArray]
                rw [List.take_append, hcl, List.take_of_length_le (by rw [hcl]; omega), List.drop_take]
              · have f1 : Flat (env (w.setRow g (news.take (n * sz') ++ cur.toList.drop (n * sz')).toArray) O (upd s.heap id (.lst te' sz' (ns.take n ++ es.drop n))) loc) (fun k => (news.take (n * sz')).getD k undef) sz' (ns.take n) := by
                  refine ⟨fun i hi => ?_, fun i j hi hj => ?_⟩
                  · have hi' : i < n := by simp at hi; omega
                    rw [getD_take hi']; exact hf.1 i (by omega)
                  · have hi' : i < n := by simp at hi; omega
                    have hb : i * sz' + j < n * sz' := by
                      have : (i + 1) * sz' ≤ n * sz' := Nat.mul_le_mul_right _ hi'
                      rw [Nat.add_mul] at this; omega
                    simp only [getD_take hi', getD_take hb]
                    exact hrel _ _ (hf.2 i j (by omega) hj)
                have f2 : Flat (env (w.setRow g (news.take (n * sz') ++ cur.toList.drop (n * sz')).toArray) O (upd s.heap id (.lst te' sz' (ns.take n ++ es.drop n))) loc) (fun k => (xs.drop (n * sz')).getD k undef) sz' (es.drop n) := by
                  refine ⟨fun i hi => ?_, fun i j hi hj => ?_⟩
                  · rw [getD_drop]; exact hfx.1 _ (by simp at hi; omega)
                  · simp only [getD_drop]
                    have := hrel _ _ (hfx.2 (n + i) j (by simp at hi; omega) hj)
                    rwa [Nat.add_mul, Nat.add_assoc] at this
                exact Flat.append f1 (by rw [hcl, List.length_take, Nat.min_eq_left hn1]) f2 (fun i j hi hj hr => hr))
            refine ⟨_, _, .sc (.int .i64 n), _, loc, ?_, .inl ⟨.int .i64 n, rfl, .sc _⟩, hK, k1⟩
            unfold execOp
            simp only [ho, resolve, invoke, builtin, Sem.run_bind, Sem.run_pure, Result.andThen_ok, List.map_toArray, List.map_cons, List.map_nil, ex, ey]
            have e'' : (env w O s.heap loc).loc id = .slice (some ⟨g, 0, none⟩) es.length cap := e
            rw [e'']
            have hfc : (Builtin.firstCells sz' n (.slice ad ns.length c)).run P w = .ok (news.take (n * sz')).toArray w := by
              rcases Nat.eq_zero_or_pos n with h0 | h0
              · subst h0; cases ad <;> simp [Builtin.firstCells, loadCells, loadCellsFrom]
              · obtain ⟨b, rfl, hb⟩ := hcell (by rintro rfl; simp at hn1; omega)
                exact run_firstCells_some (P := P) w sz' n b _ _ _ hcl (fun j u hju => hb j u (by
                  rw [List.getElem?_take] at hju
                  split at hju
                  · exact hju
                  · cases hju))
            have hsz : (sizeOf te').run P w = .ok sz' w := by simp [sizeOf, typeInfo, hie, his]
            have hst' : (storeCells ⟨g, 0, none⟩ (news.take (n * sz')).toArray.toList).run P w = .ok () (w.setRow g (news.take (n * sz') ++ cur.toList.drop (n * sz')).toArray) := by simpa using hst
            simp only [Builtin.copy_, Sem.run_bind, run_underlying hu, Result.andThen_ok, List.getElem?_toArray, List.getElem?_cons_zero, List.getElem?_cons_succ, Builtin.lenOf, Sem.run_pure, hmin, hsz, hfc, hst']
            simp [goInt]
        · exact h.elim
      · exact h.elim
    · exact h.elim
  · exact h.elim
theorem op_makeSlice {K : V → St → Prop} {t : TypeId} {l c : Operand} (ho : o.op = .makeSlice t l c) (h : opK P o s K) (S : SimAt w0 O M s.heap loc s.slots a.tmps.toList w) : Steps1 P w0 O M a w o K := by
  simp only [opK, ho] at h
  split at h
  · rename_i te sz by_ k n k' m ht e1 e2
    split at h
    · rename_i z hz
      obtain ⟨rfl, h0, hb1, hb2, hsz, hzl, hzo, h⟩ := h
      obtain ⟨d, hdst, hfree, hK⟩ := free_elim h
      obtain ⟨hu, ie, hie, his, hib⟩ := slv_run ht
      obtain ⟨i2, zx, hi2, hzx, hzr⟩ := zv_rel hz (env w O s.heap loc)
      rw [hie] at hi2; cases hi2
      have hl := ev_rel S.vals l
      have hc := ev_rel S.vals c
      rw [e1] at hl; rw [e2] at hc
      have hzc := hzr.cells hzo
      have hzs : zx.cells.size = sz := by have := hzc.1; rw [Array.length_toList] at this; omega
      have hbb : (ie.bytes : Int) * n ≤ 281474976710656 := by
        have : ((n.toNat * by_ : Nat) : Int) ≤ 140737488355328 := by omega
        rw [hib]
        rw [Int.natCast_mul, Int.toNat_of_nonneg h0, Int.mul_comm] at this
        omega
      have hrun := run_make (P := P) w t te ie zx hu hie hzx k k' n n h0 (Int.le_refl _) hbb (by omega)
      rw [his] at hrun
      -- the cells: a zero after the other
      have hcell : ∀ i j, i < n.toNat → j < sz → (madeCells zx.cells (n.toNat * sz)).getD (i * sz + j) undef = zx.cells.getD j undef := by
        intro i j hi hj
        have hb : i * sz + j < n.toNat * sz := by
          have : (i + 1) * sz ≤ n.toNat * sz := Nat.mul_le_mul_right _ hi
          rw [Nat.add_mul] at this; omega
        have hmod : (i * sz + j) % sz = j := by rw [Nat.mul_comm, Nat.mul_add_mod, Nat.mod_eq_of_lt hj]
        have hjz : j < zx.cells.size := by omega
        have g1 : zx.cells[j]! = zx.cells[j] := getElem!_pos zx.cells j hjz
        have g2 : zx.cells[j]?.getD undef = zx.cells[j] := by simp [hjz]
        simp [madeCells, Array.getD_eq_getD_getElem?, hb, hzs, hmod, g1]
        exact g2.symm
      have hdz : z.data = true := by
        unfold zv at hz
        rw [hie] at hz
        simp only [hzx, Option.map_some, Option.some.injEq] at hz
        subst hz
        cases zx <;> simp [ofZero, V.data]
        rw [V.dataL_iff]
        intro v hv
        obtain ⟨y, _, rfl⟩ := List.mem_map.1 hv
        rfl
      have hdat : V.dataL (List.replicate n.toNat z) = true := by
        rw [V.dataL_iff]; intro v hv; rw [(List.mem_replicate.1 hv).2]; exact hdz
      have hgr := Grows.alloc w (.cells (madeCells zx.cells (n.toNat * sz)) te)
      have hget : ∀ i, i < n.toNat → (List.replicate n.toNat z).getD i .any = z := fun i hi => by simp [List.getD_eq_getElem?_getD, hi]
      rcases hK with hK | hK
      · obtain ⟨k1, k2⟩ := S.new d hfree hgr (.slice (some ⟨w.heap.size, 0, none⟩) n.toNat n.toNat) (.lst te sz (List.replicate n.toNat z)) (by intro b hb; simp [blk] at hb; omega) (fun hrel => by
          refine ⟨⟨hsz, hdat⟩, (madeCells zx.cells (n.toNat * sz)).toList, ?_, ?_⟩
          · show World.ownsRow _ 0 te sz (if d = d then _ else loc d) _ _
            rw [if_pos rfl, List.length_replicate]
            refine ⟨by rw [Array.length_toList, size_madeCells], .inr ⟨w.heap.size, n.toNat, _, rfl, Nat.zero_le _, heap_alloc_new w _, Nat.le_refl _, by simp only [maxLen]; omega, size_madeCells _ _, ?_⟩⟩
            rw [List.take_of_length_le (by rw [Array.length_toList, size_madeCells]; exact Nat.le_refl _)]
          · refine ⟨fun i hi => by rw [List.length_replicate] at hi; rw [hget i hi]; exact hzl, fun i j hi hj => ?_⟩
            rw [List.length_replicate] at hi
            rw [hget i hi]
            have e : (madeCells zx.cells (n.toNat * sz)).toList.getD (i * sz + j) undef = zx.cells.getD j undef := by
              rw [← hcell i j hi hj]; simp [Array.getD_eq_getD_getElem?, List.getD_eq_getElem?_getD]
            simp only [e]
            have := hzc.getD j
            refine hrel _ _ ?_
            simpa [Array.getD_eq_getD_getElem?, List.getD_eq_getElem?_getD] using this)
        refine ⟨.value (.slice (some ⟨w.heap.size, 0, none⟩) n.toNat n.toNat), _, .own d, _, _, ?_, .inl ⟨_, rfl, ?_⟩, hK, k1⟩
        · unfold execOp
          simp only [ho, Rel.sc_iff.1 hl, Rel.sc_iff.1 hc]
          exact run_lift hrun
        · have := Rel.own (E := env (w.alloc (.cells (madeCells zx.cells (n.toNat * sz)) te)) O ((d, .lst te sz (List.replicate n.toNat z)) :: s.heap) (fun k => if k = d then .slice (some ⟨w.heap.size, 0, none⟩) n.toNat n.toNat else loc k)) d (.lst te sz (List.replicate n.toNat z)) (look_eq d _ _) rfl ⟨some ⟨w.heap.size, 0, none⟩, n.toNat, n.toNat, if_pos rfl⟩
          simpa [env] using this
      · obtain ⟨k1, k2⟩ := S.new d hfree hgr (.slice (some ⟨w.heap.size, 0, none⟩) n.toNat n.toNat) (.row te sz (List.replicate n.toNat z)) (by intro b hb; simp [blk] at hb; omega) (fun hrel => by
          refine ⟨⟨hsz, hdat⟩, w.heap.size, madeCells zx.cells (n.toNat * sz), ?_, heap_alloc_new w _, by rw [List.length_replicate]; exact size_madeCells _ _, by rw [List.length_replicate]; simp only [maxLen]; omega, ?_⟩
          · show (if d = d then _ else loc d) = _
            rw [if_pos rfl, List.length_replicate]
          · refine ⟨fun i hi => by rw [List.length_replicate] at hi; rw [hget i hi]; exact hzl, fun i j hi hj => ?_⟩
            rw [List.length_replicate] at hi
            rw [hget i hi]
            have e : (madeCells zx.cells (n.toNat * sz)).getD (i * sz + j) undef = zx.cells.getD j undef := hcell i j hi hj
            simp only [e]
            have := hzc.getD j
            refine hrel _ _ ?_
            simpa [Array.getD_eq_getD_getElem?, List.getD_eq_getElem?_getD] using this)
        refine ⟨.value (.slice (some ⟨w.heap.size, 0, none⟩) n.toNat n.toNat), _, .vw d 0 n.toNat n.toNat, _, _, ?_, .inl ⟨_, rfl, ?_⟩, hK, k1⟩
        · unfold execOp
          simp only [ho, Rel.sc_iff.1 hl, Rel.sc_iff.1 hc]
          exact run_lift hrun
        · have := Rel.vw (E := env (w.alloc (.cells (madeCells zx.cells (n.toNat * sz)) te)) O ((d, .row te sz (List.replicate n.toNat z)) :: s.heap) (fun k => if k = d then .slice (some ⟨w.heap.size, 0, none⟩) n.toNat n.toNat else loc k)) d 0 n.toNat n.toNat (.row te sz (List.replicate n.toNat z)) w.heap.size (look_eq d _ _) rfl (by show blk (if d = d then _ else loc d) = _; rw [if_pos rfl]; rfl) (Nat.le_refl _)
          rw [Nat.zero_mul] at this
          exact this
    · exact h.elim
  · exact h.elim
theorem run_eq_nil {t e : TypeId} (hu : P.underlying t = some (.slice e)) (b : Option Addr) (n c : Nat) {x y : Operand} :
    (do eqGuard .eql t x y (.slice b n c) (.slice none 0 0); binOp .eql t (.slice b n c) (.slice none 0 0) : Sem Value).run P w = .ok (.bool b.isNone) w := by
  rw [Sem.run_bind, show (eqGuard .eql t x y (.slice b n c) (.slice none 0 0)).run P w = .ok () w from rfl]
  exact run_eql_slice_nil w t e b n c hu
theorem op_makeMap {K : V → St → Prop} {t : TypeId} (ho : o.op = .makeMap t none) (h : opK P o s K) (S : SimAt w0 O M s.heap loc s.slots a.tmps.toList w) : Steps1 P w0 O M a w o K := by
  simp only [opK, ho] at h
  obtain ⟨d, hd, hf, h⟩ := free_elim h.2
  have hg := Grows.alloc w (.map #[] 0)
  obtain ⟨h1, h2⟩ := S.new d hf hg (.map (some w.heap.size)) (.map [] []) (by intro b hb; simp [blk] at hb; omega)
    (fun hrel => ⟨w.heap.size, #[], 0, by simp [env], heap_alloc_new w _, ⟨rfl, rfl⟩, by simp, rfl, by simp⟩)
  refine ⟨_, _, _, _, _, ?_, .inl ⟨.map (some w.heap.size), rfl, ?_⟩, h, h1⟩
  · unfold execOp
    simp only [ho]
    refine run_lift ?_
    simp [Instr.makeMap]
  · have := Rel.mp (E := env (w.alloc (.map #[] 0)) O ((d, .map [] []) :: s.heap) (fun k => if k = d then .map (some w.heap.size) else loc k)) d (.map [] []) (by simp [env, look]) rfl ⟨some w.heap.size, by simp [env]⟩
    simpa [env] using this
theorem setObj_ext (w : World) (g : Nat) (ob : Go.Obj) : Ext w (fun b => b = g) { w with heap := w.heap.setIfInBounds g ob } :=
  ⟨rfl, rfl, rfl, by simp, fun b _ hb => by simp [Array.getElem?_setIfInBounds_ne (fun e => hb e.symm)]⟩
theorem run_setObj' {g : Nat} {arr : Array MapEntry} {clk : Nat} (ob : Go.Obj) (hb : w.heap[g]? = some (.map arr clk)) : (setObj g ob).run P w = .ok () { w with heap := w.heap.setIfInBounds g ob } := by
  simp [setObj, Sem.run, hb]
theorem setObj_at {g : Nat} {ob : Go.Obj} {x : Go.Obj} (hb : w.heap[g]? = some x) : (w.heap.setIfInBounds g ob)[g]? = some ob := by
  have : g < w.heap.size := (Array.getElem?_eq_some_iff.1 hb).1
  simp [this]
theorem mapWr_elim {m k : V} {t : TypeId} {K : Nat → List Value → List V → Value → Option Nat → Prop} (h : mapWr P s t m k K) (S : SimAt w0 O M s.heap loc s.slots a.tmps.toList w) {xm xk : Value} (hm : Rel (env w O s.heap loc) xm m) (hk : Rel (env w O s.heap loc) xk k) :
    ∃ id ks vs r kt te g arr clk, K id ks vs xk r ∧ look s.heap id = some (.map ks vs) ∧ xm = .map (some g) ∧ loc id = .map (some g) ∧ w.heap[g]? = some (.map arr clk) ∧ (arr.size = ks.length ∧ vs.length = ks.length) ∧
      (∀ i, i < ks.length → (arr.getD i default).key = ks.getD i undef) ∧ V.dataL vs = true ∧ (∀ i, i < ks.length → Rel (env w O s.heap loc) (arr.getD i default).val (vs.getD i .any)) ∧
      P.underlying t = some (.map kt te) ∧ (∀ b n v, (Instr.checkKey b (n + 1) kt v).run P w = .ok () w) ∧ (Instr.findKey kt xk arr.toList).run P w = .ok (r.map fun j => (j, (arr.getD j default).val)) w ∧
      (∀ j, r = some j → j < ks.length ∧ Instr.sameBits 10000 (arr.getD j default).key xk = true ∧ xk = ks.getD j undef) := by
  unfold mapWr at h
  split at h
  · rename_i kd te ht
    obtain ⟨kt, hu, hkt, hp⟩ := mpv_run ht
    split at h
    · rename_i id kv
      split at h
      · rename_i ks vs hl
        split at h
        · rename_i r hr
          obtain ⟨g, arr, clk, e1, hg, ⟨h1, h2⟩, h3, h4, h5⟩ := S.objs id _ hl
          have ek := Rel.sc_iff.1 hk
          subst ek
          obtain ⟨f1, f2⟩ := run_findKey (w := w) hkt h1 h3 hr
          have e2 : xm = loc id := by cases hm; rfl
          refine ⟨id, ks, vs, r, kt, te, g, arr, clk, h, hl, e2.trans e1, e1, hg, ⟨h1, h2⟩, h3, h4, h5, hu, fun b n v => run_checkKey hkt hp b n v, f1, ?_⟩
          rintro j rfl
          have hj := f2 j rfl
          have same : ∀ (ks : List Value) (i j : Nat), mfind kd xk ks i = some (some j) → i ≤ j ∧ Instr.sameNow kd xk (ks.getD (j - i) undef) = some true := by
            intro ks
            induction ks with
            | nil => intro i j h; simp [mfind] at h
            | cons x ks ih =>
              intro i j h
              simp only [mfind] at h
              split at h
              · rename_i hs; cases h; exact ⟨Nat.le_refl _, by simpa using hs⟩
              · obtain ⟨q1, q2⟩ := ih _ _ h
                refine ⟨by omega, ?_⟩
                rw [show j - i = (j - (i + 1)) + 1 by omega, List.getD_cons_succ]; exact q2
              · cases h
          have hs := (same ks 0 j hr).2
          rw [Nat.sub_zero] at hs
          rw [h3 j hj]
          generalize ks.getD j undef = y at hs
          have : xk = y ∧ Instr.sameBits 10000 y xk = true := by
            unfold Instr.sameNow at hs
            split at hs
            · rename_i k' a' k'' b'
              by_cases e : k' = k''
              · subst e; simp at hs; subst hs; exact ⟨rfl, by simp [Instr.sameBits]⟩
              · simp [e] at hs
            · rename_i a' b'
              have e := beq_bytes a' b'
              have hs' : (a' == b') = true := by simpa using hs
              rw [e] at hs'
              have := of_decide_eq_true hs'
              subst this
              refine ⟨rfl, ?_⟩
              show (a' == a') = true
              rw [e]; simp
            · rename_i a' b'
              simp at hs; subst hs; exact ⟨rfl, by cases a' <;> rfl⟩
            · cases hs
          exact ⟨hj, this.2, this.1⟩
        · exact h.elim
      · exact h.elim
    · exact h.elim
  · exact h.elim
theorem modify_getD {arr : Array MapEntry} {j : Nat} (f : MapEntry → MapEntry) (h : j < arr.size) (i : Nat) : (arr.modify j f).getD i default = if j = i then f (arr.getD i default) else arr.getD i default := by
  simp only [Array.getD_eq_getD_getElem?, Array.getElem?_modify]
  by_cases e : j = i
  · subst e; simp [h]
  · simp [e]
theorem map_upd {t : TypeId} {xm xk xv : Value} {x : V} {K : V → St → Prop} {m k : V} (h : mapWr P s t m k fun id ks vs kv r => x.data = true ∧ K .any ⟨s.slots, upd s.heap id (mset ks vs kv x r)⟩)
    (S : SimAt w0 O M s.heap loc s.slots a.tmps.toList w) (hm : Rel (env w O s.heap loc) xm m) (hk : Rel (env w O s.heap loc) xk k) (hx : Rel (env w O s.heap loc) xv x) :
    ∃ w' s', (Instr.mapUpdate t xm xk xv).run P w = .ok () w' ∧ K .any s' ∧ SimAt w0 O M s'.heap loc s'.slots a.tmps.toList w' := by
  obtain ⟨id, ks, vs, r, kt, te, g, arr, clk, ⟨hxd, hK⟩, hl, rfl, hloc, hg, ⟨h1, h2⟩, h3, h4, h5, hu, hck, hf, hr⟩ := mapWr_elim h S hm hk
  have hblk : blk (loc id) = some g := by rw [hloc]; rfl
  cases r with
  | none =>
    obtain ⟨k1, k2⟩ := S.write id (.map ks vs) (mset ks vs xk x none) hl (by simp [mset, Obj.alike]) hblk (setObj_ext w g (.map (arr.push { key := xk, val := xv, born := clk }) (clk + 1))) (fun hrel => by
      refine ⟨g, _, _, hloc, setObj_at hg, ⟨by simp [h1], by simp [h2]⟩, fun i hi => ?_, ?_, fun i hi => ?_⟩
      · by_cases hc : i < ks.length
        · have := h3 i hc
          rw [getD_append_left hc, ← this]
          simp [Array.getD_eq_getD_getElem?, Array.getElem?_push, show ¬ i = arr.size by omega]
        · have : i = ks.length := by simp at hi; omega
          subst this
          simp [Array.getD_eq_getD_getElem?, ← h1]
      · rw [V.dataL_append, h4]; simp [V.dataL, hxd]
      · by_cases hc : i < ks.length
        · have := hrel _ _ (h5 i hc)
          rw [getD_append_left (by omega)]
          simpa [Array.getD_eq_getD_getElem?, Array.getElem?_push, show ¬ i = arr.size by omega] using this
        · have : i = ks.length := by simp at hi; omega
          subst this
          have := hrel _ _ hx
          rw [getD_append_right (by omega)]
          simpa [Array.getD_eq_getD_getElem?, ← h1, h2] using this)
    refine ⟨_, _, ?_, hK, k1⟩
    simp [Instr.mapUpdate, run_underlying hu, run_getObj_map w g arr clk hg, hck, hf, run_setObj' _ hg]
  | some j =>
    obtain ⟨hj, hsb, hkey⟩ := hr j rfl
    have hjs : j < arr.size := by omega
    obtain ⟨e0, hja⟩ : ∃ e0, arr[j]? = some e0 := ⟨_, Array.getElem?_eq_getElem hjs⟩
    have he0 : arr.getD j default = e0 := by rw [Array.getD_eq_getD_getElem?, hja]; rfl
    rw [he0] at hsb
    obtain ⟨k1, k2⟩ := S.write id (.map ks vs) (mset ks vs xk x (some j)) hl (by simp [mset, Obj.alike]) hblk (setObj_ext w g (.map (arr.modify j fun e => { e with key := xk, val := xv }) clk)) (fun hrel => by
      refine ⟨g, _, _, hloc, setObj_at hg, ⟨by simp [h1], by simp [h2]⟩, fun i hi => ?_, ?_, fun i hi => ?_⟩
      · by_cases hc : j = i
        · subst hc
          rw [← hkey, modify_getD _ hjs, if_pos rfl]
        · rw [modify_getD _ hjs, if_neg hc]; exact h3 i hi
      · rw [V.dataL_iff] at h4 ⊢
        intro v hv
        rcases List.mem_or_eq_of_mem_set hv with h | rfl
        · exact h4 v h
        · exact hxd
      · by_cases hc : j = i
        · subst hc
          have e : (vs.set j x).getD j .any = x := by rw [List.getD_eq_getElem?_getD, List.getElem?_set, if_pos rfl, if_pos (by omega)]; rfl
          rw [modify_getD _ hjs, if_pos rfl, e]
          exact hrel _ _ hx
        · have e : (vs.set j x).getD i .any = vs.getD i .any := by rw [List.getD_eq_getElem?_getD, List.getElem?_set, if_neg hc, List.getD_eq_getElem?_getD]
          rw [modify_getD _ hjs, if_neg hc, e]
          exact hrel _ _ (h5 i hi))
    refine ⟨_, _, ?_, hK, k1⟩
    simp [Instr.mapUpdate, run_underlying hu, run_getObj_map w g arr clk hg, hck, hf, run_setObj' _ hg, hja, Instr.keyThatStays, hsb]
theorem op_mapUpdate {K : V → St → Prop} {t : TypeId} {m k x : Operand} (ho : o.op = .mapUpdate t m k x) (h : opK P o s K) (S : SimAt w0 O M s.heap loc s.slots a.tmps.toList w) : Steps1 P w0 O M a w o K := by
  simp only [opK, ho] at h
  obtain ⟨w', s', h1, h2, h3⟩ := map_upd h S (ev_rel S.vals m) (ev_rel S.vals k) (ev_rel S.vals x)
  refine ⟨.skip, _, _, _, loc, ?_, .inr ⟨rfl, rfl⟩, h2, h3⟩
  unfold execOp
  simp [ho, Sem.run_bind, h1]
theorem op_insert {K : V → St → Prop} {t : TypeId} {m k x : Operand} (ho : o.op = .insert t m k x) (h : opK P o s K) (S : SimAt w0 O M s.heap loc s.slots a.tmps.toList w) : Steps1 P w0 O M a w o K := by
  simp only [opK, ho] at h
  obtain ⟨w', s', h1, h2, h3⟩ := map_upd h S (ev_rel S.vals m) (ev_rel S.vals k) (ev_rel S.vals x)
  refine ⟨.skip, _, _, _, loc, ?_, .inr ⟨rfl, rfl⟩, h2, h3⟩
  unfold execOp
  simp [ho, Sem.run_bind, h1]
theorem op_delete {K : V → St → Prop} {args : Array Operand} {argTypes : Array TypeId} (ho : o.op = .call { callee := .builtin .delete, args, argTypes }) (h : opK P o s K) (S : SimAt w0 O M s.heap loc s.slots a.tmps.toList w) : Steps1 P w0 O M a w o K := by
  simp only [opK, ho] at h
  split at h
  · rename_i m k t t' hargs htys
    have ea : args = #[m, k] := by cases args; simp_all
    have et : argTypes = #[t, t'] := by cases argTypes; simp_all
    subst ea; subst et
    obtain ⟨id, ks, vs, r, kt, te, g, arr, clk, hK, hl, hm, hloc, hg, ⟨h1, h2⟩, h3, h4, h5, hu, hck, hf, hr⟩ := mapWr_elim h S (ev_rel S.vals m) (ev_rel S.vals k)
    have hblk : blk (loc id) = some g := by rw [hloc]; rfl
    have exec : ∀ {w' : World}, (Builtin.delete_ #[t, t'] o.type #[.map (some g), a.eval k]).run P w = .ok (.tuple #[]) w' → (execOp a.eval o).run P w = .ok (.value (.tuple #[])) w' := by
      intro w' hrun
      unfold execOp
      simp only [ho, resolve, invoke, builtin, Sem.run_bind, Sem.run_pure, Result.andThen_ok, List.map_toArray, List.map_cons, List.map_nil, hm, hrun]
    cases r with
    | none =>
      obtain ⟨k1, k2⟩ := S.write id (.map ks vs) (mdel ks vs none) hl (by simp [mdel, Obj.alike]) hblk (setObj_ext w g (.map arr clk)) (fun hrel => ⟨g, _, _, hloc, setObj_at hg, ⟨h1, h2⟩, h3, h4, fun i hi => hrel _ _ (h5 i hi)⟩)
      refine ⟨_, _, _, _, loc, exec ?_, .inl ⟨_, rfl, .any _⟩, hK, k1⟩
      simp [Builtin.delete_, run_underlying hu, run_getObj_map w g arr clk hg, hck, hf, run_setObj' _ hg]
    | some j =>
      obtain ⟨hj, _, _⟩ := hr j rfl
      obtain ⟨k1, k2⟩ := S.write id (.map ks vs) (mdel ks vs (some j)) hl (by simp [mdel, Obj.alike]) hblk (setObj_ext w g (.map (arr.eraseIdxIfInBounds j) clk)) (fun hrel => by
        have hja : j < arr.size := by omega
        have hget : ∀ i, (arr.eraseIdxIfInBounds j).getD i default = if i < j then arr.getD i default else arr.getD (i + 1) default := by
          intro i
          simp only [Array.eraseIdxIfInBounds, dif_pos hja, Array.getD_eq_getD_getElem?, Array.getElem?_eraseIdx]
          split <;> rfl
        have hkd : ∀ i, (ks.eraseIdx j).getD i undef = if i < j then ks.getD i undef else ks.getD (i + 1) undef := by
          intro i
          simp only [List.getD_eq_getElem?_getD, List.getElem?_eraseIdx]
          split <;> rfl
        have hvd : ∀ i, (vs.eraseIdx j).getD i .any = if i < j then vs.getD i .any else vs.getD (i + 1) .any := by
          intro i
          simp only [List.getD_eq_getElem?_getD, List.getElem?_eraseIdx]
          split <;> rfl
        have hlen : (ks.eraseIdx j).length = ks.length - 1 := List.length_eraseIdx_of_lt hj
        refine ⟨g, _, _, hloc, setObj_at hg, ⟨?_, ?_⟩, fun i hi => ?_, ?_, fun i hi => ?_⟩
        · simp only [Array.eraseIdxIfInBounds, dif_pos hja, Array.size_eraseIdx]; omega
        · rw [List.length_eraseIdx_of_lt (by omega)]; omega
        · rw [hget, hkd]
          split
          · exact h3 i (by omega)
          · exact h3 (i + 1) (by omega)
        · rw [V.dataL_iff] at h4 ⊢
          exact fun v hv => h4 v (List.mem_of_mem_eraseIdx hv)
        · rw [hget, hvd]
          split
          · exact hrel _ _ (h5 i (by omega))
          · exact hrel _ _ (h5 (i + 1) (by omega)))
      refine ⟨_, _, _, _, loc, exec ?_, .inl ⟨_, rfl, .any _⟩, hK, k1⟩
      simp [Builtin.delete_, run_underlying hu, run_getObj_map w g arr clk hg, hck, hf, run_setObj' _ hg]
  · exact h.elim
theorem op_sound {K : V → St → Prop} (h : opK P o s K) (S : SimAt w0 O M s.heap loc s.slots a.tmps.toList w) : Steps1 P w0 O M a w o K := by
  cases hop : o.op with
  | box t x => exact op_box hop h S
  | alloc t => exact op_alloc hop h S
  | store t p x => exact op_store hop h S
  | buildSlice t n parts => exact op_buildSlice hop h S
  | makeSlice t l c => exact op_makeSlice hop h S
  | slice t x lo hi mx => exact op_slice hop h S
  | makeMap t r =>
    cases r with
    | none => exact op_makeMap hop h S
    | some r => simp only [opK, hop, valK] at h
  | mapUpdate t m k x => exact op_mapUpdate hop h S
  | insert t m k x => exact op_insert hop h S
  | call c =>
    obtain ⟨callee, args, argTypes⟩ := c
    cases callee with
    | builtin b =>
      cases b
      case append => exact op_append hop h S
      case copy => exact op_copy hop h S
      case delete => exact op_delete hop h S
      all_goals
        simp only [opK, hop] at h
        exact Steps1.val hop h S
    | value f => simp only [opK, hop, valK] at h
    | invoke r m => simp only [opK, hop, valK] at h
  | binOp op t x y ty =>
    cases op
    case eql =>
      simp only [opK, hop] at h
      have sl : (slv P t).isSome = true → ∃ e, P.underlying t = some (.slice e) := fun hs => by
        obtain ⟨⟨te, sz, by_⟩, ht⟩ := Option.isSome_iff_exists.1 hs
        exact ⟨_, (slv_run ht).1⟩
      have fin : ∀ (b : Option Addr) (n c : Nat) (r : Bool), a.eval x = .slice b n c → a.eval y = .slice none 0 0 → (slv P t).isSome = true → b.isNone = r → K (.sc (.bool r)) s → Steps1 P w0 O M a w o K := by
        intro b n c r hx hy hs hr hK
        obtain ⟨e, hu⟩ := sl hs
        refine ⟨_, w, _, s, loc, ?_, .inl ⟨_, rfl, .sc (.bool r)⟩, hK, S⟩
        unfold execOp
        simp only [hop, hx, hy]
        rw [← hr]
        exact run_lift (run_eq_nil hu b n c)
      split at h
      · rename_i full es ex ey
        obtain ⟨hs, h1, h2⟩ := h
        have hx := ev_rel S.vals x
        have hy := ev_rel S.vals y
        rw [ex] at hx; rw [ey] at hy
        by_cases h0 : es = []
        · obtain ⟨b, c, e, _⟩ := rel_sl_len hx
          exact fin _ _ _ _ e (Rel.sc_iff.1 hy) hs rfl (h2 h0 _)
        · obtain ⟨g, off, c, sz, e, _⟩ := rel_sl_elem hx h0
          exact fin _ _ _ false e (Rel.sc_iff.1 hy) hs rfl (h1 h0)
      · rename_i id ex ey
        split at h
        · rename_i te sz es hob
          obtain ⟨hs, h1, h2⟩ := h
          have hx := ev_rel S.vals x
          have hy := ev_rel S.vals y
          rw [ex] at hx; rw [ey] at hy
          obtain ⟨e, _⟩ := hx.own_inv
          rcases blk_own (S.objs id _ hob) with ⟨g, c, e', _⟩ | ⟨e', h0⟩
          · by_cases h0 : es = []
            · exact fin _ _ _ _ (e.trans e') (Rel.sc_iff.1 hy) hs rfl (h2 h0 _)
            · exact fin _ _ _ false (e.trans e') (Rel.sc_iff.1 hy) hs rfl (h1 h0)
          · exact fin _ _ _ _ (e.trans e') (Rel.sc_iff.1 hy) hs rfl (h2 (List.eq_nil_of_length_eq_zero h0) _)
        · exact h.elim
      · rename_i ex ey
        obtain ⟨hs, h1⟩ := h
        have hx := ev_rel S.vals x
        have hy := ev_rel S.vals y
        rw [ex] at hx; rw [ey] at hy
        exact fin _ _ _ true (Rel.sc_iff.1 hx) (Rel.sc_iff.1 hy) hs rfl h1
      · exact Steps1.val hop h S
    all_goals
      simp only [opK, hop] at h
      exact Steps1.val hop h S
  | _ =>
    simp only [opK, hop] at h
    exact Steps1.val hop h S
end
end Go.AM
