/- The abstract machine, part 12: weakening, contracts ('Spec'), calls ('CallS'), ordered regions ('evalR'), bodies ('Runs'). -/
import Derived.Test.YtmhnmookgbmmbaaAm11
set_option linter.unusedVariables false
set_option linter.unusedSimpArgs false
namespace Go.AM

namespace V
mutual
/-- Every object named meets 'p'. -/
def uses (p : Nat → Bool) : V → Bool
  | .agg cs => usesL p cs
  | .tup cs => usesL p cs
  | .fn _ cs => usesL p cs
  | .dmp _ _ => true
  | .own id => p id
  | .ptr id _ _ => p id
  | .vw id _ _ _ => p id
  | .mp id => p id
  | .sc _ => true
  | .any => true
  | .junk => true
  | .sl _ _ => true
  | .pt _ => true
def usesL (p : Nat → Bool) : List V → Bool
  | [] => true
  | v :: vs => uses p v && usesL p vs
end
mutual
theorem uses_data (p : Nat → Bool) : (v : V) → v.data = true → v.uses p = true
  | .sc _, _ => by simp [uses]
  | .any, _ => by simp [uses]
  | .junk, _ => by simp [uses]
  | .agg cs, h => by simp only [uses]; exact usesL_data p cs (by simpa [data] using h)
  | .tup cs, h => by simp only [uses]; exact usesL_data p cs (by simpa [data] using h)
  | .sl _ _, _ => by simp [uses]
  | .pt _, _ => by simp [uses]
  | .fn _ cs, h => by simp only [uses]; exact usesL_data p cs (by simpa [data] using h)
  | .dmp _ _, _ => by simp [uses]
  | .own _, h => by simp [data] at h
  | .ptr .., h => by simp [data] at h
  | .vw .., h => by simp [data] at h
  | .mp _, h => by simp [data] at h
theorem usesL_data (p : Nat → Bool) : (vs : List V) → dataL vs = true → usesL p vs = true
  | [], _ => by simp [usesL]
  | v :: vs, h => by
    have h' : data v = true ∧ dataL vs = true := by simpa [dataL] using h
    simp only [usesL]; rw [uses_data p v h'.1, usesL_data p vs h'.2]; rfl
end
theorem usesL_iff {p : Nat → Bool} {vs : List V} : usesL p vs = true ↔ ∀ v ∈ vs, uses p v = true := by
  induction vs with
  | nil => simp [usesL]
  | cons v vs ih => simp [usesL, ih]
theorem usesL_getD {p : Nat → Bool} {vs : List V} (h : usesL p vs = true) (i : Nat) : uses p (vs.getD i .any) = true := by
  by_cases hi : i < vs.length
  · rw [List.getD_eq_getElem?_getD, List.getElem?_eq_getElem hi]; exact usesL_iff.1 h _ (List.getElem_mem hi)
  · rw [List.getD_eq_getElem?_getD, List.getElem?_eq_none (by omega)]; simp [uses]

/-- Says less. -/
inductive Le : V → V → Prop
  | any (v) : Le v .any
  | refl (v) : Le v v
  | full (es) : Le (.sl true es) (.sl false es)
  | nil (f) : Le (.sc (.slice none 0 0)) (.sl f [])
  | agg (cs ds) : cs.length = ds.length → (∀ i, i < cs.length → Le (cs.getD i .any) (ds.getD i .any)) → Le (.agg cs) (.agg ds)
  | slE (f) (es ds) : es.length = ds.length → V.dataL ds = true → (∀ i, i < es.length → (es.getD i .any).cells.length = (ds.getD i .any).cells.length) →
      (∀ i j, i < es.length → j < (ds.getD i .any).cells.length → Le ((es.getD i .any).cells.getD j .any) ((ds.getD i .any).cells.getD j .any)) → Le (.sl f es) (.sl false ds)
theorem Le.of_eq {v u : V} (h : v = u) : Le v u := h ▸ .refl v
inductive LeL : List V → List V → Prop
  | nil : LeL [] []
  | cons {v u : V} {vs us : List V} : Le v u → LeL vs us → LeL (v :: vs) (u :: us)
theorem LeL.refl : ∀ (vs : List V), LeL vs vs
  | [] => .nil
  | v :: vs => .cons (.refl v) (LeL.refl vs)
theorem LeL.length {vs us : List V} (h : LeL vs us) : vs.length = us.length := by
  induction h with
  | nil => rfl
  | cons _ _ ih => simp [ih]
theorem LeL.getD {vs us : List V} (h : LeL vs us) (i : Nat) : Le (vs.getD i .any) (us.getD i .any) := by
  induction h generalizing i with
  | nil => simpa using Le.refl V.any
  | cons h1 h2 ih => cases i with
    | zero => simpa using h1
    | succ i => simpa using ih i
theorem Le.aggL {cs ds : List V} (h : LeL cs ds) : Le (.agg cs) (.agg ds) := .agg _ _ h.length (fun i _ => h.getD i)
theorem Rel_le {E : Env} {v u : V} (h : Le v u) : ∀ {x : Value}, Rel E x v → Rel E x u := by
  induction h with
  | any v => intro x _; exact .any x
  | refl v => intro x h; exact h
  | full es =>
    intro x h
    generalize hv : V.sl true es = v at h
    cases h with
    | nil f a c h1 h2 => cases hv; exact .nil _ _ _ (by simp) h2
    | sl f es g off c sz fv a1 a2 a3 a4 a5 a6 a7 a8 a9 => cases hv; exact .sl false _ g off c sz fv a1 a2 a3 (by simp) a5 a6 a7 a8 a9
    | _ => cases hv
  | nil f => intro x h; rw [Rel.sc_iff.1 h]; exact .nil f none 0 (fun _ => rfl) (by simp [maxLen])
  | agg cs ds hl _ ih =>
    intro x h
    obtain ⟨arr, rfl, h1, h2⟩ := Rel.agg_iff.1 h
    exact Rel.agg_iff.2 ⟨arr, rfl, by omega, fun i hi => ih i (by omega) (h2 i (by omega))⟩
  | slE f es ds hl hd hc _ ih =>
    intro x h
    generalize hv : V.sl f es = v at h
    cases h with
    | nil f a c h1 h2 =>
      cases hv
      have : ds = [] := List.eq_nil_of_length_eq_zero (by simpa using hl.symm)
      subst this; exact .nil _ _ _ (by simp) h2
    | sl f es g off c sz fv a1 a2 a3 a4 a5 a6 a7 a8 a9 =>
      cases hv
      rw [hl] at a2 ⊢
      exact .sl false ds g off c sz fv hd a2 a3 (by simp) a5 a6 (fun i hi => by rw [← hc i (by omega)]; exact a7 i (by omega)) (fun k hk => a8 k (by rw [hl]; exact hk)) (fun i j hi hj => ih i j (by omega) (by rw [← hc i (by omega), a7 i (by omega)]; exact hj) (a9 i j (by omega) hj))
    | _ => cases hv
end V
open V (Le LeL)

theorem RelL.le {E : Env} {xs : List Value} {vs us : List V} (h : RelL E xs vs) (k : LeL vs us) : RelL E xs us :=
  ⟨by rw [h.1, k.length], fun i hi => V.Rel_le (k.getD i) (h.2 i (by rw [k.length]; exact hi))⟩

theorem Rel.mono_uses {E E' : Env} {p : Nat → Bool} (hF : ∀ b, E.F b → E'.F b ∧ E'.w.heap[b]? = E.w.heap[b]?)
    (hid : ∀ id o, p id = true → E.obj id = some o → ∃ o', E'.obj id = some o' ∧ o'.alike o ∧ E'.loc id = E.loc id) {x : Value} {v : V} (h : Rel E x v) (hp : v.uses p = true) : Rel E' x v := by
  induction h with
  | sc x => exact .sc x
  | any x => exact .any x
  | junk x h => exact .junk x h
  | agg arr cs h _ ih => exact .agg arr cs h (fun i hi => ih i hi (V.usesL_getD (by simpa [V.uses] using hp) i))
  | tup arr cs h _ ih => exact .tup arr cs h (fun i hi => ih i hi (V.usesL_getD (by simpa [V.uses] using hp) i))
  | nil full a c h1 h2 => exact .nil full a c h1 h2
  | sl full es g off c sz f a1 a2 a3 a4 a5 a6 a7 a8 a9 ih =>
    exact .sl full es g off c sz f a1 a2 a3 a4 (hF g a5).1 a6 a7 (fun k hk => by rw [cell_of_heap (hF g a5).2]; exact a8 k hk) (fun i j hi hj => ih i j hi hj (V.uses_data p _ (V.data_getD_cells a1 i j)))
  | pt v g off f a1 a2 a3 a4 ih => exact .pt v g off f a1 (hF g a2).1 (fun k hk => by rw [cell_of_heap (hF g a2).2]; exact a3 k hk) (fun j hj => ih j hj (V.uses_data p _ (V.dataL_getD (V.data_cells a1) j)))
  | fn f arr caps a1 a2 ih => exact .fn f arr caps a1 (fun i hi => ih i hi (V.usesL_getD (by simpa [V.uses] using hp) i))
  | own id o a1 a2 a3 =>
    obtain ⟨o', h1, h2, h3⟩ := hid id o (by simpa [V.uses] using hp) a1
    rw [← h3]; exact .own id o' h1 ((alike_lst h2).trans a2) (by rw [h3]; exact a3)
  | ptr id i fo o g a1 a2 =>
    obtain ⟨o', h1, h2, h3⟩ := hid id o (by simpa [V.uses] using hp) a1
    rw [← Obj.alike_sz h2]; exact .ptr id i fo o' g h1 (by rw [h3]; exact a2)
  | vw id off len cap o g a1 a2 a3 a4 =>
    obtain ⟨o', h1, h2, h3⟩ := hid id o (by simpa [V.uses] using hp) a1
    rw [← Obj.alike_sz h2]; exact .vw id off len cap o' g h1 ((alike_row h2).trans a2) (by rw [h3]; exact a3) a4
  | mp id o a1 a2 a3 =>
    obtain ⟨o', h1, h2, h3⟩ := hid id o (by simpa [V.uses] using hp) a1
    rw [← h3]; exact .mp id o' h1 ((alike_map h2).trans a2) (by rw [h3]; exact a3)
  | dnil => exact .dnil
  | dmp ks vs g arr clk a1 a2 a3 a4 a5 a6 a7 ih => exact .dmp ks vs g arr clk a1 (hF g a2).1 (by rw [(hF g a2).2]; exact a3) a4 a5 a6 (fun i hi => ih i hi (V.uses_data p _ (V.dataL_getD a1 i)))

/-- The objects that are kept. -/
def sub (H : Heap) (p : Nat → Bool) : Heap → Prop
  | [] => True
  | (k, o) :: H' => (look H k = some o ∧ (match o with | .var _ v => v.uses p = true | _ => True)) ∧ sub H p H'
theorem sub_look {H : Heap} {p : Nat → Bool} : ∀ {H' : Heap}, sub H p H' → ∀ id o, look H' id = some o → look H id = some o ∧ (∀ t v, o = .var t v → v.uses p = true)
  | [], _, id, o, h => by simp [look] at h
  | (k, q) :: H', h, id, o, hl => by
    obtain ⟨⟨h1, h2⟩, h3⟩ := h
    by_cases hk : k = id
    · subst hk
      simp only [look, if_true] at hl
      cases hl
      exact ⟨h1, fun t v e => by subst e; exact h2⟩
    · simp only [look, if_neg hk] at hl
      exact sub_look h3 id o hl

/-- A state that says less than another. -/
def St.Le (s s' : St) : Prop := ∀ w0 O M loc xs w, SimAt w0 O M s.heap loc s.slots xs w → ∃ loc', SimAt w0 O M s'.heap loc' s'.slots xs w
theorem St.Le.refl (s : St) : s.Le s := fun _ _ _ loc _ _ h => ⟨loc, h⟩
theorem St.Le.trans {a b c : St} (h : a.Le b) (k : b.Le c) : a.Le c := fun w0 O M loc xs w S => by
  obtain ⟨loc', S'⟩ := h w0 O M loc xs w S
  exact k w0 O M loc' xs w S'

/-- What is kept of a simulation when values and objects are forgotten. -/
theorem SimAt.clean {w0 : World} {O M : Nat → Prop} {H H' : Heap} {loc : Nat → Value} {vs vs' : List V} {xs : List Value} {w : World} (S : SimAt w0 O M H loc vs xs w) (h1 : LeL vs vs')
    (h2 : V.usesL (fun id => (look H' id).isSome) vs' = true) (h3 : sub H (fun id => (look H' id).isSome) H') : SimAt w0 O M H' loc vs' xs w := by
  have hl := fun id o (h : look H' id = some o) => sub_look h3 id o h
  have hs : ∀ id, (look H' id).isSome = true → (look H id).isSome = true := fun id h => by
    obtain ⟨o, ho⟩ := Option.isSome_iff_exists.1 h
    rw [(hl id o ho).1]; rfl
  have hF : ∀ b, (env w O H loc).F b → (env w O H' loc).F b ∧ (env w O H' loc).w.heap[b]? = (env w O H loc).w.heap[b]? := fun b hb =>
    ⟨⟨hb.1, hb.2.1, fun id hid => hb.2.2 id (hs id hid)⟩, rfl⟩
  have hid : ∀ id o, (look H' id).isSome = true → (env w O H loc).obj id = some o → ∃ o', (env w O H' loc).obj id = some o' ∧ o'.alike o ∧ (env w O H' loc).loc id = (env w O H loc).loc id := fun id o h ho => by
    obtain ⟨o', ho'⟩ := Option.isSome_iff_exists.1 h
    have e : look H id = some o' := (hl id o' ho').1
    have e2 : look H id = some o := ho
    have e3 : o' = o := by rw [e] at e2; cases e2; rfl
    rw [e3] at ho'
    exact ⟨o, ho', o.alike_refl, rfl⟩
  have hrel : ∀ x v, v.uses (fun id => (look H' id).isSome) = true → Rel (env w O H loc) x v → Rel (env w O H' loc) x v := fun x v hv hr => Rel.mono_uses (E := env w O H loc) (E' := env w O H' loc) hF hid hr hv
  refine ⟨⟨(S.vals.le h1).1, fun i hi => hrel _ _ (V.usesL_getD h2 i) ((S.vals.le h1).2 i hi)⟩, fun id o ho => ?_, fun id id' b a1 a2 => S.dist id id' b (hs id a1) (hs id' a2), fun id b a1 => S.own id b (hs id a1), S.ext, S.O_lt⟩
  obtain ⟨e, hv⟩ := hl id o ho
  have hob := S.objs id o e
  cases o with
  | var t v =>
    obtain ⟨g, arr, q1, q2, q3⟩ := hob
    refine ⟨g, arr, q1, q2, q3.1, fun i hi => hrel _ _ ?_ (q3.2 i hi)⟩
    have hv' := hv t v rfl
    cases v <;> first
      | (simp only [V.uses] at hv'; exact V.usesL_getD hv' i)
      | (have : i = 0 := by simpa [V.cells] using hi
         subst this; exact hv')
  | lst t sz es =>
    obtain ⟨hz, xs', q, hf⟩ := hob
    exact ⟨hz, xs', q, hf.1, fun i j hi hj => (hf.2 i j hi hj).data_mono hF (V.data_getD_cells hz.2 i j)⟩
  | row t sz es =>
    obtain ⟨hz, g, arr, q1, q2, q3, q4, hf⟩ := hob
    exact ⟨hz, g, arr, q1, q2, q3, q4, hf.1, fun i j hi hj => (hf.2 i j hi hj).data_mono hF (V.data_getD_cells hz.2 i j)⟩
  | map ks vs =>
    obtain ⟨g, arr, clk, q1, q2, q3, q4, q5, q6⟩ := hob
    exact ⟨g, arr, clk, q1, q2, q3, q4, q5, fun i hi => (q6 i hi).data_mono hF (V.dataL_getD q5 i)⟩

theorem St.Le.clean {s s' : St} (h1 : LeL s.slots s'.slots) (h2 : V.usesL (fun id => (look s'.heap id).isSome) s'.slots = true) (h3 : sub s.heap (fun id => (look s'.heap id).isSome) s'.heap) : s.Le s' :=
  fun w0 O M loc xs w S => ⟨loc, S.clean h1 h2 h3⟩

/-- A nil slice in a slot becomes a list of the call's own. -/
theorem St.Le.nil {s : St} (d : Nat) (t : TypeId) (sz : Nat) (i : Nat) (hz : 0 < sz) (hd : look s.heap d = none) (hi : s.slots.getD i .any = .sc (.slice none 0 0)) (hl : i < s.slots.length) :
    s.Le ⟨s.slots.set i (.own d), (d, .lst t sz []) :: s.heap⟩ := by
  intro w0 O M loc xs w S
  obtain ⟨k1, k2⟩ := S.new d hd (Ext.refl w _) (.slice none 0 0) (.lst t sz []) (by intro b hb; simp [blk] at hb) (fun _ => ⟨⟨hz, rfl⟩, [], by
    show World.ownsRow w 0 t sz (if d = d then _ else loc d) _ _
    rw [if_pos rfl]; exact World.ownsRow_nil w 0 t sz, by simp, by simp⟩)
  refine ⟨fun k => if k = d then .slice none 0 0 else loc k, ?_⟩
  have hx : xs.getD i undef = .slice none 0 0 := by
    have := S.vals.2 i hl
    rw [hi] at this; exact Rel.sc_iff.1 this
  have hr : Rel (env w O ((d, .lst t sz []) :: s.heap) (fun k => if k = d then .slice none 0 0 else loc k)) (.slice none 0 0) (.own d) := by
    have := Rel.own (E := env w O ((d, .lst t sz []) :: s.heap) (fun k => if k = d then .slice none 0 0 else loc k)) d _ (look_eq d _ _) rfl ⟨none, 0, 0, if_pos rfl⟩
    simpa [env] using this
  have hset : xs.set i (.slice none 0 0) = xs := by
    apply List.ext_getElem?
    intro j
    rw [List.getElem?_set]
    by_cases hj : i = j
    · subst hj
      have hi' : i < xs.length := by rw [S.vals.1]; exact hl
      rw [if_pos rfl, if_pos hi', List.getElem?_eq_getElem hi']
      rw [List.getD_eq_getElem?_getD, List.getElem?_eq_getElem hi'] at hx
      rw [← hx]; rfl
    · rw [if_neg hj]
  have := k1.put i hr
  rw [hset] at this
  exact this

theorem St.Le.freeze_lst {s : St} (d : Nat) {t : TypeId} {sz : Nat} {es : List V} (h : look s.heap d = some (.lst t sz es)) :
    s.Le ⟨V.frzL d (.sl false es) .junk s.slots, frzH d (.sl false es) .junk s.heap⟩ := fun w0 O M loc xs w S => ⟨loc, (S.freeze_lst d h).1⟩
theorem St.Le.freeze_var {s : St} (d : Nat) {t : TypeId} {u : V} (h : look s.heap d = some (.var t u)) (hu : u.data = true) :
    s.Le ⟨V.frzL d .junk (.pt u) s.slots, frzH d .junk (.pt u) s.heap⟩ := fun w0 O M loc xs w S => ⟨loc, (S.freeze_var d h hu).1⟩
end Go.AM
