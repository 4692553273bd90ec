/- The abstract machine, part 6: 'valK' is sound: slices, builds, operators; the theorem 'val_sound'. -/
import Derived.Test.YtmhnmookgbmmbaaAm5
set_option linter.unusedVariables false
set_option linter.unusedSimpArgs false
namespace Go.AM

section
variable {P : Program} {w : World} {O : Nat → Prop} {H : Heap} {loc : Nat → Value}

theorem slice_run {t e : TypeId} {sz by_ : Nat} (ht : slv P t = some (e, sz, by_)) : P.underlying t = some (.slice (P.elem t)) ∧ ∀ w, (sizeOf (P.elem t)).run P w = .ok sz w := by
  obtain ⟨hu, i, hi, hs, _⟩ := slv_run ht
  have e1 : P.elem t = e := by simp [Program.elem, hu]
  rw [e1]
  exact ⟨hu, fun w => by simp [sizeOf, typeInfo, hi, hs]⟩

theorem rel_sl_cut {E : Env} {x : Value} {full : Bool} {es : List V} (h : Rel E x (.sl full es)) {a : Option Addr} {c : Nat} (hx : x = .slice a es.length c) {sz : Nat}
    (hsz : ∀ i, i < es.length → (es.getD i .any).cells.length = sz) (l h' m : Nat) (h1 : l ≤ h') (h2 : h' ≤ es.length) (h3 : h' ≤ m) (h4 : m ≤ c) (full' : Bool) (hf : full' = true → m = h') :
    Rel E (sliced a l h' m sz) (.sl full' ((es.take h').drop l)) := by
  have hcm : c ≤ maxLen := by
    obtain ⟨a', c', e, _, hc, _⟩ := rel_sl_len h
    rw [e] at hx; cases hx; exact hc
  unfold sliced
  by_cases hn : h' - l = 0
  · have e1 : (es.take h').drop l = [] := by apply List.drop_eq_nil_of_le; simp; omega
    rw [e1, hn]
    exact .nil _ _ _ (fun e => by have := hf e; omega) (by simp only [maxLen] at hcm ⊢; omega)
  · have hne : es ≠ [] := by rintro rfl; simp at h2; omega
    obtain ⟨g, off, c', sz', e, k1, k2, k3, k4, k5, k6, k7⟩ := rel_sl_elem h hne
    have e0 : 0 < es.length := List.length_pos_iff.2 hne
    have es' : sz' = sz := by rw [← k5 0 e0, hsz 0 e0]
    subst es'
    rw [e] at hx; cases hx
    rw [if_neg (by omega : ¬ m = l)]
    simp only [Option.map_some, addr_add]
    have := k7 l (h' - l) (by omega) (m - l) (by omega) (by simp only [maxLen] at hcm ⊢; omega) full' (fun e => by have := hf e; omega) (by omega)
    have e2 : (es.take h').drop l = (es.drop l).take (h' - l) := by
      rw [List.drop_take]
    rw [e2]; exact this

theorem rel_vw {id off cap : Nat} {o : Obj} {g : Nat} {E : Env} (a1 : E.obj id = some o) (a2 : isRow o = true) (a3 : blk (E.loc id) = some g) (l h m sz : Nat) (hs : o.sz = sz) (hm : m = cap) (h1 : h ≤ cap) (h2 : l ≤ h) :
    Rel E (sliced (some ⟨g, off * sz, none⟩) l h m sz) (.vw id (if cap = l then off else off + l) (h - l) (cap - l)) := by
  subst hs; subst hm
  unfold sliced
  by_cases e : m = l
  · rw [if_pos e, if_pos e]; exact .vw id off _ _ o g a1 a2 a3 (by omega)
  · rw [if_neg e, if_neg e]
    simp only [Option.map_some, addr_add]
    rw [← Nat.add_mul]
    exact .vw id (off + l) _ _ o g a1 a2 a3 (by omega)

theorem opt_rel {e : Operand → V} {ρ : Operand → Value} {E : Env} (hρ : ∀ x, Rel E (ρ x) (e x)) {lo : Option Operand} {k : IntKind} {l : Int} (h : lo.map e = some (.sc (.int k l))) : lo.map ρ = some (.int k l) := by
  cases lo with
  | none => simp at h
  | some a =>
    simp only [Option.map_some, Option.some.injEq] at h ⊢
    have := hρ a
    rw [h] at this
    exact Rel.sc_iff.1 this
theorem opt_none {e : Operand → V} {ρ : Operand → Value} {lo : Option Operand} (h : lo.map e = none) : lo.map ρ = none := by cases lo <;> simp_all

theorem slice_sound {e : Operand → V} {ρ : Operand → Value} {K : V → Prop} {t : TypeId} {a : Operand} {lo hi mx : Option Operand} (h : valK P (.slice t a lo hi mx) e H K)
    (hρ : ∀ x, Rel (env w O H loc) (ρ x) (e x)) (hobj : ∀ id o, look H id = some o → ObjOK (env w O H loc) id o) :
    ∃ z v, (Instr.sliceAt t (ρ a) (lo.map ρ) (hi.map ρ) (mx.map ρ)).run P w = .ok z w ∧ Rel (env w O H loc) z v ∧ K v := by
  have hx := hρ a
  simp only [valK] at h
  split at h
  · rename_i te sz by_ ht
    obtain ⟨hu, hsz⟩ := slice_run ht
    rw [run_sliceAt_slice w t _ _ _ _ hu]
    split at h
    · rename_i full es ea
      rw [ea] at hx
      obtain ⟨ad, c, ex, hc, hcm, hcf⟩ := rel_sl_len hx
      have ex' := ex
      rw [ex]
      have strides : Stride sz es → ∀ i, i < es.length → (es.getD i .any).cells.length = sz := fun hs i hi => hs _ (by
        rw [List.getD_eq_getElem?_getD, List.getElem?_eq_getElem hi]; exact List.getElem_mem hi)
      have strides' : ∃ sz', ∀ i, i < es.length → (es.getD i .any).cells.length = sz' := by
        by_cases hne : es = []
        · subst hne; exact ⟨0, by simp⟩
        · obtain ⟨_, _, _, sz', _, _, _, _, _, k5, _⟩ := rel_sl_elem hx hne
          exact ⟨sz', k5⟩
      have zero : ∀ (n m s s' : Nat), sliced ad 0 n m s = sliced ad 0 n m s' := fun n m s s' => by unfold sliced; simp
      split at h
      · rename_i q1 q2 q3
        rw [opt_none q1, opt_none q2, opt_none q3]
        refine ⟨.slice ad es.length c, _, ?_, by rw [← ex]; exact hx, h⟩
        rw [run_slice_all w t ad _ _ hu, hsz]
        simp only [Result.andThen_ok]
        unfold sliced
        by_cases hc0 : c = 0
        · rw [if_pos hc0]; simp
        · rw [if_neg hc0]; simp only [Nat.zero_mul, Nat.sub_zero]
          cases ad <;> simp [Addr.add]
      · rename_i k l q1 q2 q3
        obtain ⟨hl, hs, hK⟩ := h
        rw [opt_rel hρ q1, opt_none q2, opt_none q3, run_slice_l w t ad _ _ hu k l hl.1 hl.2, hsz]
        refine ⟨_, _, rfl, ?_, hK⟩
        have := rel_sl_cut hx ex (strides hs) l.toNat es.length c (by omega) (Nat.le_refl _) hc (Nat.le_refl _) full hcf
        simpa using this
      · rename_i k l q1 q2 q3
        obtain ⟨hl, hK⟩ := h
        rw [opt_none q1, opt_rel hρ q2, opt_none q3, run_slice_h w t ad _ _ hu k l hl.1 (by omega), hsz]
        obtain ⟨sz', k5⟩ := strides'
        refine ⟨_, _, rfl, ?_, hK⟩
        rw [zero _ _ sz sz']
        have := rel_sl_cut hx ex k5 0 l.toNat c (by omega) (by omega) (by omega) (Nat.le_refl _) false (by simp)
        simpa using this
      · rename_i k l k' h' q1 q2 q3
        obtain ⟨hl, hs, hK⟩ := h
        rw [opt_rel hρ q1, opt_rel hρ q2, opt_none q3, run_slice_lh w t ad _ _ hu k k' l h' hl.1 hl.2.1 (by omega), hsz]
        exact ⟨_, _, rfl, rel_sl_cut hx ex (strides hs) l.toNat h'.toNat c (by omega) (by omega) (by omega) (Nat.le_refl _) false (by simp), hK⟩
      · rename_i k l k' m q1 q2 q3
        obtain ⟨⟨hl, rfl, hl2⟩, hK⟩ := h
        rw [opt_none q1, opt_rel hρ q2, opt_rel hρ q3, run_slice_hm w t ad _ _ hu k k' l l hl (Int.le_refl _) (by omega), hsz]
        obtain ⟨sz', k5⟩ := strides'
        refine ⟨_, _, rfl, ?_, hK⟩
        rw [zero _ _ sz sz']
        have := rel_sl_cut hx ex k5 0 l.toNat l.toNat (by omega) (by omega) (Nat.le_refl _) (by omega) true (by simp)
        simpa using this
      · exact h.elim
    · rename_i id ea
      rw [ea] at hx
      split at h
      · rename_i t' sz' es ho
        obtain ⟨ex, _⟩ := hx.own_inv
        rw [ex]
        have hob := hobj id _ ho
        split at h
        · rename_i k l q1 q2 q3
          obtain ⟨hl, hK⟩ := h
          rw [opt_rel hρ q1, opt_none q2, opt_none q3]
          rcases blk_own hob with ⟨g, c, ex', hc⟩ | ⟨ex', h0⟩
          · rw [ex', run_slice_l w t _ _ _ hu k l hl.1 hl.2, hsz]
            exact ⟨_, _, rfl, .junk _ rfl, hK⟩
          · rw [ex', run_slice_l w t _ _ _ hu k l hl.1 (by omega), hsz]
            exact ⟨_, _, rfl, .junk _ rfl, hK⟩
        · exact h.elim
      · exact h.elim
    · rename_i id off len cap ea
      rw [ea] at hx
      split at h
      · rename_i t' sz' es ho
        obtain ⟨rfl, h⟩ := h
        obtain ⟨o, g, ex, a1, a2, a3, a4⟩ := hx.vw_inv
        have : o = .row t' sz' es := by have : look H id = some o := a1; rw [ho] at this; cases this; rfl
        subst this
        rw [ex]
        have hs : (Obj.row t' sz' es).sz = sz' := rfl
        split at h
        · rename_i q1 q2 q3
          rw [opt_none q1, opt_none q2, opt_none q3, run_slice_all w t _ _ _ hu, hsz]
          refine ⟨_, _, rfl, ?_, h⟩
          have := rel_vw (off := off) a1 a2 a3 0 len cap _ hs rfl a4 (Nat.zero_le _)
          simpa [Obj.sz] using this
        · rename_i k l q1 q2 q3
          obtain ⟨hl, hK⟩ := h
          rw [opt_rel hρ q1, opt_none q2, opt_none q3, run_slice_l w t _ _ _ hu k l hl.1 hl.2, hsz]
          exact ⟨_, _, rfl, rel_vw a1 a2 a3 l.toNat len cap _ hs rfl a4 (by omega), hK⟩
        · rename_i k l q1 q2 q3
          obtain ⟨hl, hK⟩ := h
          rw [opt_none q1, opt_rel hρ q2, opt_none q3, run_slice_h w t _ _ _ hu k l hl.1 hl.2, hsz]
          refine ⟨_, _, rfl, ?_, hK⟩
          have := rel_vw (off := off) a1 a2 a3 0 l.toNat cap _ hs rfl (by omega) (Nat.zero_le _)
          simpa [Obj.sz] using this
        · rename_i k l k' h' q1 q2 q3
          obtain ⟨hl, hK⟩ := h
          rw [opt_rel hρ q1, opt_rel hρ q2, opt_none q3, run_slice_lh w t _ _ _ hu k k' l h' hl.1 hl.2.1 hl.2.2, hsz]
          exact ⟨_, _, rfl, rel_vw a1 a2 a3 l.toNat h'.toNat cap _ hs rfl (by omega) (by omega), hK⟩
        · exact h.elim
      · exact h.elim
    · exact h.elim
  · split at h
    · rename_i hu
      rw [run_sliceAt_string w t _ _ _ _ hu]
      split at h
      · rename_i s ea
        rw [ea] at hx
        have ex := Rel.sc_iff.1 hx
        rw [ex]
        have sz : ∀ (l : Int), 0 ≤ l → ((l.toNat : Nat) : Int) = l := fun l h => Int.toNat_of_nonneg h
        split at h
        · rename_i k l q1 q2 q3
          obtain ⟨hl, hK⟩ := h
          rw [opt_rel hρ q1, opt_none q2, opt_none q3]
          refine ⟨_, _, ?_, .sc _, hK⟩
          simp [Instr.slice, run_underlying hu, Instr.sliceBounds, run_sliceBound, hl]
        · rename_i k l q1 q2 q3
          obtain ⟨hl, hK⟩ := h
          rw [opt_none q1, opt_rel hρ q2, opt_none q3]
          refine ⟨_, _, ?_, .sc _, hK⟩
          simp [Instr.slice, run_underlying hu, Instr.sliceBounds, run_sliceBound, hl]
        · rename_i k l k' h' q1 q2 q3
          obtain ⟨hl, hK⟩ := h
          rw [opt_rel hρ q1, opt_rel hρ q2, opt_none q3]
          refine ⟨_, _, ?_, .sc _, hK⟩
          simp [Instr.slice, run_underlying hu, Instr.sliceBounds, run_sliceBound, hl, sz h' (by omega), (by omega : 0 ≤ h')]
        · exact h.elim
      · exact h.elim
    · exact h.elim

theorem field_sound {e : Operand → V} {ρ : Operand → Value} {K : V → Prop} {t : TypeId} {a : Operand} {f : Nat} (h : valK P (.field t a f) e H K)
    (hρ : ∀ x, Rel (env w O H loc) (ρ x) (e x)) : ∃ z v, (Instr.field t (ρ a) f).run P w = .ok z w ∧ Rel (env w O H loc) z v ∧ K v := by
  have hx := hρ a
  simp only [valK] at h
  split at h
  · rename_i off ag n hf
    obtain ⟨fs, fd, hu, hfd, rfl, ht, hn⟩ := fldv_run hf
    split at h
    · rename_i cs ea
      obtain ⟨hl, hK⟩ := h
      rw [ea] at hx
      obtain ⟨arr, ex, hr⟩ := Rel.agg_iff.1 hx
      rw [ex]
      obtain ⟨y, h1, h2⟩ := part_sound (E := env w O H loc) ht hr hl hn w
      exact ⟨y, _, by simp [Instr.field, Sem.run_bind, run_underlying hu, hfd, asAgg, h1], h2, hK⟩
    · exact h.elim
  · exact h.elim

theorem index_sound {e : Operand → V} {ρ : Operand → Value} {K : V → Prop} {t : TypeId} {a b : Operand} (h : valK P (.index t a b) e H K)
    (hρ : ∀ x, Rel (env w O H loc) (ρ x) (e x)) : ∃ z v, (Instr.index t (ρ a) (ρ b)).run P w = .ok z w ∧ Rel (env w O H loc) z v ∧ K v := by
  have hx := hρ a
  have hy := hρ b
  simp only [valK] at h
  split at h
  · rename_i n ag sz ht
    obtain ⟨el, hu, he⟩ := arv_run ht
    obtain ⟨t1, t2⟩ := tyv_run he w
    split at h
    · rename_i cs k j ea eb
      obtain ⟨hj, hz, hl, hK⟩ := h
      rw [ea] at hx; rw [eb] at hy
      obtain ⟨arr, ex, hr⟩ := Rel.agg_iff.1 hx
      rw [ex, Rel.sc_iff.1 hy]
      have hb : j.toNat * sz + sz ≤ cs.length := by
        rw [← hl]
        have : (j.toNat + 1) * sz ≤ n * sz := Nat.mul_le_mul_right _ (by omega)
        rw [Nat.add_mul] at this; omega
      obtain ⟨y, h1, h2⟩ := part_sound (E := env w O H loc) he hr hb hz w
      exact ⟨y, _, by simp [Instr.index, asIntOf, Sem.run_bind, run_underlying hu, hj, t2, h1], h2, hK⟩
    · exact h.elim
  · split at h
    · rename_i hu
      split at h
      · rename_i s k j ea eb
        obtain ⟨hb, hj, hK⟩ := h
        rw [ea] at hx; rw [eb] at hy
        rw [Rel.sc_iff.1 hx, Rel.sc_iff.1 hy]
        refine ⟨_, _, ?_, .sc _, hK⟩
        simp [Instr.index, asIntOf, Sem.run_bind, run_underlying hu, hj, hb]
      · exact h.elim
    · exact h.elim

theorem beq_bytes (a b : ByteArray) : (a == b) = decide (a = b) := by
  obtain ⟨a⟩ := a
  obtain ⟨b⟩ := b
  have h : ((ByteArray.mk a == ByteArray.mk b) : Bool) = (a == b) := rfl
  rw [h]
  by_cases e : a = b
  · subst e; simp
  · have h1 : (a == b) = false := by simp [e]
    rw [h1]; simp [e]
theorem bin_sound {K : V → Prop} {op : BinOp} {t : TypeId} {x y : V} {xv yv : Value} {a b : Operand} (h : binK P op t x y K) (hx : Rel (env w O H loc) xv x) (hy : Rel (env w O H loc) yv y) :
    ∃ z v, (do eqGuard op t a b xv yv; binOp op t xv yv : Sem Value).run P w = .ok z w ∧ Rel (env w O H loc) z v ∧ K v := by
  have guard : (∀ p, xv ≠ .agg p) → (xv ≠ .nilIface) → (eqGuard op t a b xv yv).run P w = .ok () w := by
    intro h1 h2
    cases op <;> simp only [eqGuard] <;> first | rfl | (cases xv <;> cases yv <;> simp_all)
  unfold binK at h
  split at h
  · rename_i k a' k' b'
    rw [Rel.sc_iff.1 hx, Rel.sc_iff.1 hy] at guard ⊢
    obtain ⟨z, v, h1, h2, h3⟩ := int_sound (P := P) h (E := env w O H loc) (t := t) (w := w)
    refine ⟨z, v, ?_, h2, h3⟩
    rw [Sem.run_bind, guard (by simp) (by simp)]
    exact h1
  · rename_i a' b'
    rw [Rel.sc_iff.1 hx, Rel.sc_iff.1 hy] at guard ⊢
    split at h
    · refine ⟨_, _, ?_, .sc _, h.2⟩
      rw [Sem.run_bind, guard (by simp) (by simp)]
      exact run_eql_bool w t a' b' h.1
    · refine ⟨_, _, ?_, .sc _, h.2⟩
      rw [Sem.run_bind, guard (by simp) (by simp)]
      exact run_neq_bool w t a' b' h.1
    · exact h.elim
  · rename_i a' b'
    rw [Rel.sc_iff.1 hx, Rel.sc_iff.1 hy] at guard ⊢
    have hq : (a'.toList == b'.toList) = decide (a' = b') := by
      rw [← beq_toListBytes]
      exact beq_bytes a' b'
    cases op <;> simp only [strK] at h <;> first
      | exact h.elim
      | (refine ⟨_, _, ?_, .sc _, h⟩
         rw [Sem.run_bind, guard (by simp) (by simp)]
         simp [binOp, Op.stringOp, hq])
      | (refine ⟨_, _, ?_, .sc _, h.2⟩
         rw [Sem.run_bind, guard (by simp) (by simp)]
         have h1 := h.1
         have h2 : ¬ ((a'.size + b'.size : Nat) : Int) > IntKind.i64.max := by
           rw [show IntKind.i64.max = 9223372036854775807 from by decide]; omega
         simp only [Result.andThen_ok, binOp, Op.stringOp]
         rw [if_neg h2]; rfl)
  · rename_i cs ds
    obtain ⟨arr, ex, hr⟩ := Rel.agg_iff.1 hx
    obtain ⟨brr, ey, hs⟩ := Rel.agg_iff.1 hy
    rw [ex, ey]
    split at h
    · obtain ⟨⟨zs, ⟨h1, h2⟩, hz, h3⟩, h4⟩ := h
      refine ⟨_, _, ?_, .sc _, h4⟩
      rw [Sem.run_bind, run_eqGuard_agg w _ t a b arr brr h2]
      simp only [Result.andThen_ok]
      rw [run_eql_struct, h1 cs ds arr brr _ w hz h3 hr hs]
      simp
    · obtain ⟨⟨zs, ⟨h1, h2⟩, hz, h3⟩, h4⟩ := h
      refine ⟨_, _, ?_, .sc _, h4⟩
      rw [Sem.run_bind, run_eqGuard_agg w _ t a b arr brr h2]
      simp only [Result.andThen_ok]
      rw [run_neq_struct, h1 cs ds arr brr _ w hz h3 hr hs]
      simp
    · exact h.elim
  · exact h.elim

theorem mpv_run {t : TypeId} {kd : TypeDesc} {te : TypeId} (h : mpv P t = some (kd, te)) : ∃ k, P.underlying t = some (.map k te) ∧ P.underlying k = some kd ∧ ((∃ q, kd = .int q) ∨ kd = .string) := by
  unfold mpv at h
  split at h
  · rename_i k e hu
    split at h
    · rename_i q hk
      simp only [Option.some.injEq, Prod.mk.injEq] at h
      obtain ⟨rfl, rfl⟩ := h
      exact ⟨k, hu, hk, .inl ⟨q, rfl⟩⟩
    · rename_i hk
      simp only [Option.some.injEq, Prod.mk.injEq] at h
      obtain ⟨rfl, rfl⟩ := h
      exact ⟨k, hu, hk, .inr rfl⟩
    · cases h
  · cases h
theorem run_checkKey {k : TypeId} {kd : TypeDesc} (hk : P.underlying k = some kd) (hp : (∃ q, kd = .int q) ∨ kd = .string) (b : Bool) (n : Nat) (v : Value) : (Instr.checkKey b (n + 1) k v).run P w = .ok () w := by
  unfold Instr.checkKey
  rw [Sem.run_bind, run_underlying hk w]
  rcases hp with ⟨q, rfl⟩ | rfl <;> rfl
theorem findNow_eq {kd : TypeDesc} {k : Value} : ∀ (es : List MapEntry) (ks : List Value) (i : Nat) (r : Option Nat), es.map (·.key) = ks → mfind kd k ks i = some r →
    Instr.findNow kd k es i = some (r.map fun j => (j, (es.getD (j - i) default).val)) ∧ (∀ j, r = some j → i ≤ j ∧ j < i + es.length)
  | [], ks, i, r, he, h => by
    subst he
    simp only [List.map_nil, mfind, Option.some.injEq] at h
    subst h
    exact ⟨rfl, by simp⟩
  | e :: es, ks, i, r, he, h => by
    subst he
    simp only [List.map_cons, mfind] at h
    simp only [Instr.findNow]
    split at h
    · rename_i hs
      cases h
      rw [hs]
      exact ⟨by simp, by rintro j hj; cases hj; simp⟩
    · rename_i hs
      rw [hs]
      obtain ⟨h1, h2⟩ := findNow_eq es _ (i + 1) r rfl h
      refine ⟨?_, fun j hj => ?_⟩
      · simp only [h1]
        cases r with
        | none => rfl
        | some j =>
          have := h2 j rfl
          simp only [Option.map_some]
          rw [show j - i = (j - (i + 1)) + 1 by omega, List.getD_cons_succ]
      · have := h2 j hj
        simp only [List.length_cons]; omega
    · cases h
theorem keys_eq {arr : Array MapEntry} {ks : List Value} (hl : arr.size = ks.length) (hk : ∀ i, i < ks.length → (arr.getD i default).key = ks.getD i undef) : arr.toList.map (·.key) = ks := by
  apply List.ext_getElem
  · simpa using hl
  · intro i h1 h2
    have := hk i h2
    have h3 : i < arr.size := by omega
    simpa [Array.getD_eq_getD_getElem?, List.getD_eq_getElem?_getD, h3, h2] using this
theorem run_findKey {k : TypeId} {kd : TypeDesc} (hk : P.underlying k = some kd) {arr : Array MapEntry} {ks : List Value} (hl : arr.size = ks.length) (hks : ∀ i, i < ks.length → (arr.getD i default).key = ks.getD i undef) {key : Value} {r : Option Nat}
    (h : mfind kd key ks 0 = some r) : (Instr.findKey k key arr.toList).run P w = .ok (r.map fun j => (j, (arr.getD j default).val)) w ∧ ∀ j, r = some j → j < ks.length := by
  obtain ⟨h1, h2⟩ := findNow_eq arr.toList ks 0 r (keys_eq hl hks) h
  refine ⟨?_, fun j hj => by have := h2 j hj; simp at this; omega⟩
  unfold Instr.findKey
  rw [Sem.run_bind, run_underlying hk w]
  simp only [Result.andThen_ok, h1]
  congr 2
  cases r <;> simp [Array.getD_eq_getD_getElem?, List.getD_eq_getElem?_getD]
theorem run_zeroValue {te : TypeId} {z : V} (hz : zv P te = some z) (E : Env) : ∃ x, (zeroValue te).run P w = .ok x w ∧ Rel E x z := by
  unfold zv at hz
  split at hz
  · rename_i i hi
    cases hzz : i.zero with
    | none => simp [hzz] at hz
    | some x =>
      simp only [hzz, Option.map_some, Option.some.injEq] at hz
      subst hz
      refine ⟨x, by simp [zeroValue, typeInfo, hi, hzz], ?_⟩
      cases x with
      | agg arr =>
        refine Rel.agg_iff.2 ⟨arr, rfl, by simp, fun i hi => ?_⟩
        have hi' : i < arr.toList.length := by simpa using hi
        have e : (arr.toList.map V.sc).getD i .any = .sc (arr.toList.getD i undef) := by
          rw [List.getD_eq_getElem?_getD, List.getD_eq_getElem?_getD, List.getElem?_map, List.getElem?_eq_getElem hi']; rfl
        rw [e]; exact .sc _
      | _ => exact .sc _
  · cases hz
theorem lookup_sound {e : Operand → V} {ρ : Operand → Value} {K : V → Prop} {t : TypeId} {a b : Operand} {ok : Bool} (h : valK P (.lookup t a b ok) e H K)
    (hρ : ∀ x, Rel (env w O H loc) (ρ x) (e x)) (hobj : ∀ id o, look H id = some o → ObjOK (env w O H loc) id o) :
    ∃ z v, (Instr.lookup t (ρ a) (ρ b) ok).run P w = .ok z w ∧ Rel (env w O H loc) z v ∧ K v := by
  have hx := hρ a
  have hy := hρ b
  simp only [valK] at h
  split at h
  · rename_i kd te ht
    obtain ⟨k, hu, hk, hp⟩ := mpv_run ht
    split at h
    · rename_i z ks vs key hz hv hb
      rw [hb] at hy
      rw [Rel.sc_iff.1 hy]
      split at h
      · rename_i r hr
        obtain ⟨zx, hz1, hz2⟩ := run_zeroValue (w := w) hz (env w O H loc)
        have fin : ∀ (arr : Array MapEntry), arr.size = ks.length → (∀ i, i < ks.length → (arr.getD i default).key = ks.getD i undef) → (∀ i, i < ks.length → Rel (env w O H loc) (arr.getD i default).val (vs.getD i .any)) →
            ∃ z v, (do
              Instr.checkKey arr.isEmpty 10000 k key
              let (v, ok') ← match ← Instr.findKey k key arr.toList with
                | some (_, v) => pure (v, true)
                | none => pure (← zeroValue te, false)
              pure (if ok then .tuple #[v, .bool ok'] else v) : Sem Value).run P w = .ok z w ∧ Rel (env w O H loc) z v ∧ K v := by
          intro arr q1 q2 q3
          obtain ⟨f1, f2⟩ := run_findKey (w := w) hk q1 q2 hr
          rw [Sem.run_bind, run_checkKey hk hp]
          simp only [Result.andThen_ok]
          rw [Sem.run_bind, f1]
          simp only [Result.andThen_ok]
          cases r with
          | none =>
            refine ⟨_, _, by simp [Sem.run_bind, hz1]; rfl, ?_, h⟩
            unfold mgot
            cases ok
            · simpa using hz2
            · exact Rel.tup_iff.2 ⟨_, rfl, RelL.cons hz2 (RelL.cons (.sc _) (.nil _))⟩
          | some j =>
            refine ⟨_, _, rfl, ?_, h⟩
            have := q3 j (f2 j rfl)
            unfold mgot
            cases ok
            · simpa using this
            · exact Rel.tup_iff.2 ⟨_, rfl, RelL.cons this (RelL.cons (.sc _) (.nil _))⟩
        have hlk : ∀ (g : Nat) (arr : Array MapEntry) (clk : Nat), w.heap[g]? = some (.map arr clk) → ρ a = .map (some g) → (Instr.lookup t (ρ a) key ok).run P w = (do
              Instr.checkKey arr.isEmpty 10000 k key
              let (v, ok') ← match ← Instr.findKey k key arr.toList with
                | some (_, v) => pure (v, true)
                | none => pure (← zeroValue te, false)
              pure (if ok then .tuple #[v, .bool ok'] else v) : Sem Value).run P w := by
          intro g arr clk hg e
          rw [e]
          unfold Instr.lookup
          rw [Sem.run_bind, run_underlying hu w]
          simp only [Result.andThen_ok]
          rw [Sem.run_bind, run_getObj_map w g arr clk hg]
          simp only [Result.andThen_ok]
          rw [Sem.run_bind]
          simp only [Sem.run_pure, Result.andThen_ok]
          rfl
        generalize hva : e a = va at hv hx
        cases va <;> simp only [mview] at hv
        case dmp ks' vs' =>
          cases hv
          generalize hd : V.dmp ks vs = dv at hx
          generalize hxa : ρ a = xa at hx hlk ⊢
          cases hx with
          | dnil =>
            cases hd
            have := fin #[] rfl (by simp) (by simp)
            unfold Instr.lookup
            rw [Sem.run_bind, run_underlying hu w]
            simp only [Result.andThen_ok]
            rw [Sem.run_bind]
            simp only [Sem.run_pure, Result.andThen_ok]
            exact this
          | dmp ks'' vs'' g arr clk a1 a2 a3 a4 a5 a6 a7 =>
            cases hd
            rw [hlk g arr clk a3 rfl]
            exact fin arr a4 a6 a7
          | _ => cases hd
        case mp id =>
          split at hv
          · rename_i ks' vs' hl
            cases hv
            obtain ⟨g, arr, clk, e1, hg, ⟨h1, h2⟩, h3, h4, h5⟩ := hobj id _ hl
            have e2 : ρ a = loc id := by
              generalize hxa : ρ a = xa at hx
              cases hx; rfl
            rw [hlk g arr clk hg (e2.trans e1)]
            exact fin arr h1 h3 h5
          · cases hv
        case sc y =>
          have hy : y = .map none ∧ ks = [] ∧ vs = [] := by
            cases y <;> (try cases hv)
            rename_i o
            cases o <;> cases hv
            exact ⟨rfl, rfl, rfl⟩
          obtain ⟨rfl, rfl, rfl⟩ := hy
          rw [Rel.sc_iff.1 hx]
          have := fin #[] rfl (by simp) (by simp)
          unfold Instr.lookup
          rw [Sem.run_bind, run_underlying hu w]
          simp only [Result.andThen_ok]
          rw [Sem.run_bind]
          simp only [Sem.run_pure, Result.andThen_ok]
          exact this
        all_goals cases hv
      · exact h.elim
    · exact h.elim
  · exact h.elim
end
end Go.AM
