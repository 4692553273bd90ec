/- The abstract machine: Am12, Am13, Am14, Am15, Am16, Am17. Own work; imports the kit's laws only. -/
import Derived.Test.YtndpgjcmmjeoiaaGreatMb
set_option linter.unusedVariables false
set_option linter.unusedSimpArgs false
namespace Go.AM
namespace V
mutual
/-- Every object named meets 'p'. -/
def uses (p : Nat → Bool) : V → Bool
  | .agg cs => usesL p cs
  | .tup cs => usesL p cs
  | .fn _ cs => usesL p cs
  | .dmp _ _ => true
  | .own id => p id
  | .ptr id _ _ => p id
  | .vw id _ _ _ => p id
  | .mp id => p id
  | .sc _ => true
  | .any => true
  | .junk => true
  | .sl _ _ => true
  | .pt _ => true
def usesL (p : Nat → Bool) : List V → Bool
  | [] => true
  | v :: vs => uses p v && usesL p vs
end
mutual
theorem uses_data (p : Nat → Bool) : (v : V) → v.data = true → v.uses p = true
  | .sc _, _ => by simp [uses]
  | .any, _ => by simp [uses]
  | .junk, _ => by simp [uses]
  | .agg cs, h => by simp only [uses]; exact usesL_data p cs (by simpa [data] using h)
  | .tup cs, h => by simp only [uses]; exact usesL_data p cs (by simpa [data] using h)
  | .sl _ _, _ => by simp [uses]
  | .pt _, _ => by simp [uses]
  | .fn _ cs, h => by simp only [uses]; exact usesL_data p cs (by simpa [data] using h)
  | .dmp _ _, _ => by simp [uses]
  | .own _, h => by simp [data] at h
  | .ptr .., h => by simp [data] at h
  | .vw .., h => by simp [data] at h
  | .mp _, h => by simp [data] at h
theorem usesL_data (p : Nat → Bool) : (vs : List V) → dataL vs = true → usesL p vs = true
  | [], _ => by simp [usesL]
  | v :: vs, h => by
    have h' : data v = true ∧ dataL vs = true := by simpa [dataL] using h
    simp only [usesL]; rw [uses_data p v h'.1, usesL_data p vs h'.2]; rfl
end
theorem usesL_iff {p : Nat → Bool} {vs : List V} : usesL p vs = true ↔ ∀ v ∈ vs, uses p v = true := by
  induction vs with
  | nil => simp [usesL]
  | cons v vs ih => simp [usesL, ih]
theorem usesL_getD {p : Nat → Bool} {vs : List V} (h : usesL p vs = true) (i : Nat) : uses p (vs.getD i .any) = true := by
  by_cases hi : i < vs.length
  · rw [List.getD_eq_getElem?_getD, List.getElem?_eq_getElem hi]; exact usesL_iff.1 h _ (List.getElem_mem hi)
  · rw [List.getD_eq_getElem?_getD, List.getElem?_eq_none (by omega)]; simp [uses]
inductive Le : V → V → Prop
  | any (v) : Le v .any
  | refl (v) : Le v v
  | full (es) : Le (.sl true es) (.sl false es)
  | nil (f) : Le (.sc (.slice none 0 0)) (.sl f [])
  | agg (cs ds) : cs.length = ds.length → (∀ i, i < cs.length → Le (cs.getD i .any) (ds.getD i .any)) → Le (.agg cs) (.agg ds)
  | slE (f) (es ds) : es.length = ds.length → V.dataL ds = true → (∀ i, i < es.length → (es.getD i .any).cells.length = (ds.getD i .any).cells.length) →
      (∀ i j, i < es.length → j < (ds.getD i .any).cells.length → Le ((es.getD i .any).cells.getD j .any) ((ds.getD i .any).cells.getD j .any)) → Le (.sl f es) (.sl false ds)
theorem Le.of_eq {v u : V} (h : v = u) : Le v u := h ▸ .refl v
inductive LeL : List V → List V → Prop
  | nil : LeL [] []
  | cons {v u : V} {vs us : List V} : Le v u → LeL vs us → LeL (v :: vs) (u :: us)
theorem LeL.refl : ∀ (vs : List V), LeL vs vs
  | [] => .nil
  | v :: vs => .cons (.refl v) (LeL.refl vs)
theorem LeL.length {vs us : List V} (h : LeL vs us) : vs.length = us.length := by
  induction h with
  | nil => rfl
  | cons _ _ ih => simp [ih]
theorem LeL.getD {vs us : List V} (h : LeL vs us) (i : Nat) : Le (vs.getD i .any) (us.getD i .any) := by
  induction h generalizing i with
  | nil => simpa using Le.refl V.any
  | cons h1 h2 ih => cases i with
    | zero => simpa using h1
    | succ i => simpa using ih i
theorem Le.aggL {cs ds : List V} (h : LeL cs ds) : Le (.agg cs) (.agg ds) := .agg _ _ h.length (fun i _ => h.getD i)
theorem Rel_le {E : Env} {v u : V} (h : Le v u) : ∀ {x : Value}, Rel E x v → Rel E x u := by
  induction h with
  | any v => intro x _; exact .any x
  | refl v => intro x h; exact h
  | full es =>
    intro x h
    generalize hv : V.sl true es = v at h
    cases h with
    | nil f a c h1 h2 => cases hv; exact .nil _ _ _ (by simp) h2
    | sl f es g off c sz fv a1 a2 a3 a4 a5 a6 a7 a8 a9 => cases hv; exact .sl false _ g off c sz fv a1 a2 a3 (by simp) a5 a6 a7 a8 a9
    | _ => cases hv
  | nil f => intro x h; rw [Rel.sc_iff.1 h]; exact .nil f none 0 (fun _ => rfl) (by simp [maxLen])
  | agg cs ds hl _ ih =>
    intro x h
    obtain ⟨arr, rfl, h1, h2⟩ := Rel.agg_iff.1 h
    exact Rel.agg_iff.2 ⟨arr, rfl, by omega, fun i hi => ih i (by omega) (h2 i (by omega))⟩
  | slE f es ds hl hd hc _ ih =>
    intro x h
    generalize hv : V.sl f es = v at h
    cases h with
    | nil f a c h1 h2 =>
      cases hv
      have : ds = [] := List.eq_nil_of_length_eq_zero (by simpa using hl.symm)
      subst this; exact .nil _ _ _ (by simp) h2
    | sl f es g off c sz fv a1 a2 a3 a4 a5 a6 a7 a8 a9 =>
      cases hv
      rw [hl] at a2 ⊢
      exact .sl false ds g off c sz fv hd a2 a3 (by simp) a5 a6 (fun i hi => by rw [← hc i (by omega)]; exact a7 i (by omega)) (fun k hk => a8 k (by rw [hl]; exact hk)) (fun i j hi hj => ih i j (by omega) (by rw [← hc i (by omega), a7 i (by omega)]; exact hj) (a9 i j (by omega) hj))
    | _ => cases hv
end V
open V (Le LeL)
theorem RelL.le {E : Env} {xs : List Value} {vs us : List V} (h : RelL E xs vs) (k : LeL vs us) : RelL E xs us :=
  ⟨by rw [h.1, k.length], fun i hi => V.Rel_le (k.getD i) (h.2 i (by rw [k.length]; exact hi))⟩
theorem Rel.mono_uses {E E' : Env} {p : Nat → Bool} (hF : ∀ b, E.F b → E'.F b ∧ E'.w.heap[b]? = E.w.heap[b]?)
    (hid : ∀ id o, p id = true → E.obj id = some o → ∃ o', E'.obj id = some o' ∧ o'.alike o ∧ E'.loc id = E.loc id) {x : Value} {v : V} (h : Rel E x v) (hp : v.uses p = true) : Rel E' x v := by
  induction h with
  | sc x => exact .sc x
  | any x => exact .any x
  | junk x h => exact .junk x h
  | agg arr cs h _ ih => exact .agg arr cs h (fun i hi => ih i hi (V.usesL_getD (by simpa [V.uses] using hp) i))
  | tup arr cs h _ ih => exact .tup arr cs h (fun i hi => ih i hi (V.usesL_getD (by simpa [V.uses] using hp) i))
  | nil full a c h1 h2 => exact .nil full a c h1 h2
  | sl full es g off c sz f a1 a2 a3 a4 a5 a6 a7 a8 a9 ih =>
    exact .sl full es g off c sz f a1 a2 a3 a4 (hF g a5).1 a6 a7 (fun k hk => by rw [cell_of_heap (hF g a5).2]; exact a8 k hk) (fun i j hi hj => ih i j hi hj (V.uses_data p _ (V.data_getD_cells a1 i j)))
  | pt v g off f a1 a2 a3 a4 ih => exact .pt v g off f a1 (hF g a2).1 (fun k hk => by rw [cell_of_heap (hF g a2).2]; exact a3 k hk) (fun j hj => ih j hj (V.uses_data p _ (V.dataL_getD (V.data_cells a1) j)))
  | fn f arr caps a1 a2 ih => exact .fn f arr caps a1 (fun i hi => ih i hi (V.usesL_getD (by simpa [V.uses] using hp) i))
  | own id o a1 a2 a3 =>
    obtain ⟨o', h1, h2, h3⟩ := hid id o (by simpa [V.uses] using hp) a1
    rw [← h3]; exact .own id o' h1 ((alike_lst h2).trans a2) (by rw [h3]; exact a3)
  | ptr id i fo o g a1 a2 =>
    obtain ⟨o', h1, h2, h3⟩ := hid id o (by simpa [V.uses] using hp) a1
    rw [← Obj.alike_sz h2]; exact .ptr id i fo o' g h1 (by rw [h3]; exact a2)
  | vw id off len cap o g a1 a2 a3 a4 =>
    obtain ⟨o', h1, h2, h3⟩ := hid id o (by simpa [V.uses] using hp) a1
    rw [← Obj.alike_sz h2]; exact .vw id off len cap o' g h1 ((alike_row h2).trans a2) (by rw [h3]; exact a3) a4
  | mp id o a1 a2 a3 =>
    obtain ⟨o', h1, h2, h3⟩ := hid id o (by simpa [V.uses] using hp) a1
    rw [← h3]; exact .mp id o' h1 ((alike_map h2).trans a2) (by rw [h3]; exact a3)
  | dnil => exact .dnil
  | dmp ks vs g arr clk a1 a2 a3 a4 a5 a6 a7 ih => exact .dmp ks vs g arr clk a1 (hF g a2).1 (by rw [(hF g a2).2]; exact a3) a4 a5 a6 (fun i hi => ih i hi (V.uses_data p _ (V.dataL_getD a1 i)))
def sub (H : Heap) (p : Nat → Bool) : Heap → Prop
  | [] => True
  | (k, o) :: H' => (look H k = some o ∧ (match o with | .var _ v => v.uses p = true | .gho _ v => v.uses p = true | _ => True)) ∧ sub H p H'
theorem sub_look {H : Heap} {p : Nat → Bool} : ∀ {H' : Heap}, sub H p H' → ∀ id o, look H' id = some o → look H id = some o ∧ (∀ t v, o = .var t v → v.uses p = true) ∧ (∀ x v, o = .gho x v → v.uses p = true)
  | [], _, id, o, h => by simp [look] at h
  | (k, q) :: H', h, id, o, hl => by
    obtain ⟨⟨h1, h2⟩, h3⟩ := h
    by_cases hk : k = id
    · subst hk
      simp only [look, if_true] at hl
      cases hl
      exact ⟨h1, fun t v e => by subst e; exact h2, fun t v e => by subst e; exact h2⟩
    · simp only [look, if_neg hk] at hl
      exact sub_look h3 id o hl
def St.Le (s s' : St) : Prop := ∀ w0 O M loc xs w, SimAt w0 O M s.heap loc s.slots xs w → ∃ loc', SimAt w0 O M s'.heap loc' s'.slots xs w
theorem St.Le.refl (s : St) : s.Le s := fun _ _ _ loc _ _ h => ⟨loc, h⟩
theorem St.Le.trans {a b c : St} (h : a.Le b) (k : b.Le c) : a.Le c := fun w0 O M loc xs w S => by
  obtain ⟨loc', S'⟩ := h w0 O M loc xs w S
  exact k w0 O M loc' xs w S'
theorem SimAt.clean {w0 : World} {O M : Nat → Prop} {H H' : Heap} {loc : Nat → Value} {vs vs' : List V} {xs : List Value} {w : World} (S : SimAt w0 O M H loc vs xs w) (h1 : LeL vs vs')
    (h2 : V.usesL (fun id => (look H' id).isSome) vs' = true) (h3 : sub H (fun id => (look H' id).isSome) H') : SimAt w0 O M H' loc vs' xs w := by
  have hl := fun id o (h : look H' id = some o) => sub_look h3 id o h
  have hs : ∀ id, (look H' id).isSome = true → (look H id).isSome = true := fun id h => by
    obtain ⟨o, ho⟩ := Option.isSome_iff_exists.1 h
    rw [(hl id o ho).1]; rfl
  have hF : ∀ b, (env w O H loc).F b → (env w O H' loc).F b ∧ (env w O H' loc).w.heap[b]? = (env w O H loc).w.heap[b]? := fun b hb =>
    ⟨⟨hb.1, hb.2.1, fun id hid => hb.2.2 id (hs id hid)⟩, rfl⟩
  have hid : ∀ id o, (look H' id).isSome = true → (env w O H loc).obj id = some o → ∃ o', (env w O H' loc).obj id = some o' ∧ o'.alike o ∧ (env w O H' loc).loc id = (env w O H loc).loc id := fun id o h ho => by
    obtain ⟨o', ho'⟩ := Option.isSome_iff_exists.1 h
    have e : look H id = some o' := (hl id o' ho').1
    have e2 : look H id = some o := ho
    have e3 : o' = o := by rw [e] at e2; cases e2; rfl
    rw [e3] at ho'
    exact ⟨o, ho', o.alike_refl, rfl⟩
  have hrel : ∀ x v, v.uses (fun id => (look H' id).isSome) = true → Rel (env w O H loc) x v → Rel (env w O H' loc) x v := fun x v hv hr => Rel.mono_uses (E := env w O H loc) (E' := env w O H' loc) hF hid hr hv
  refine ⟨⟨(S.vals.le h1).1, fun i hi => hrel _ _ (V.usesL_getD h2 i) ((S.vals.le h1).2 i hi)⟩, fun id o ho => ?_, fun id id' b a1 a2 => S.dist id id' b (hs id a1) (hs id' a2), fun id b a1 => S.own id b (hs id a1), S.ext, S.O_lt⟩
  obtain ⟨e, hv, hv2⟩ := hl id o ho
  have hob := S.objs id o e
  cases o with
  | var t v =>
    obtain ⟨g, arr, q1, q2, q3⟩ := hob
    refine ⟨g, arr, q1, q2, q3.1, fun i hi => hrel _ _ ?_ (q3.2 i hi)⟩
    have hv' := hv t v rfl
    cases v <;> first
      | (simp only [V.uses] at hv'; exact V.usesL_getD hv' i)
      | (have : i = 0 := by simpa [V.cells] using hi
         subst this; exact hv')
  | lst t sz es =>
    obtain ⟨hz, xs', q, hf⟩ := hob
    exact ⟨hz, xs', q, hf.1, fun i j hi hj => (hf.2 i j hi hj).data_mono hF (V.data_getD_cells hz.2 i j)⟩
  | row t sz es =>
    obtain ⟨hz, g, arr, q1, q2, q3, q4, hf⟩ := hob
    exact ⟨hz, g, arr, q1, q2, q3, q4, hf.1, fun i j hi hj => (hf.2 i j hi hj).data_mono hF (V.data_getD_cells hz.2 i j)⟩
  | map ks vs =>
    obtain ⟨g, arr, clk, q1, q2, q3, q4, q5, q6⟩ := hob
    exact ⟨g, arr, clk, q1, q2, q3, q4, q5, fun i hi => (q6 i hi).data_mono hF (V.dataL_getD q5 i)⟩
  | gho x v => exact ⟨hrel _ _ (hv2 x v rfl) hob.1, hob.2⟩
theorem St.Le.clean {s s' : St} (h1 : LeL s.slots s'.slots) (h2 : V.usesL (fun id => (look s'.heap id).isSome) s'.slots = true) (h3 : sub s.heap (fun id => (look s'.heap id).isSome) s'.heap) : s.Le s' :=
  fun w0 O M loc xs w S => ⟨loc, S.clean h1 h2 h3⟩
theorem St.Le.nil {s : St} (d : Nat) (t : TypeId) (sz : Nat) (i : Nat) (hz : 0 < sz) (hd : look s.heap d = none) (hi : s.slots.getD i .any = .sc (.slice none 0 0)) (hl : i < s.slots.length) :
    s.Le ⟨s.slots.set i (.own d), (d, .lst t sz []) :: s.heap⟩ := by
  intro w0 O M loc xs w S
  obtain ⟨k1, k2⟩ := S.new d hd (Ext.refl w _) (.slice none 0 0) (.lst t sz []) (by intro b hb; simp [blk] at hb) (fun _ => ⟨⟨hz, rfl⟩, [], by
    show World.ownsRow w 0 t sz (if d = d then _ else loc d) _ _
    rw [if_pos rfl]; exact World.ownsRow_nil w 0 t sz, by simp, by simp⟩)
  refine ⟨fun k => if k = d then .slice none 0 0 else loc k, ?_⟩
  have hx : xs.getD i undef = .slice none 0 0 := by
    have := S.vals.2 i hl
    rw [hi] at this; exact Rel.sc_iff.1 this
  have hr : Rel (env w O ((d, .lst t sz []) :: s.heap) (fun k => if k = d then .slice none 0 0 else loc k)) (.slice none 0 0) (.own d) := by
    have := Rel.own (E := env w O ((d, .lst t sz []) :: s.heap) (fun k => if k = d then .slice none 0 0 else loc k)) d _ (look_eq d _ _) rfl ⟨none, 0, 0, if_pos rfl⟩
    simpa [env] using this
  have hset : xs.set i (.slice none 0 0) = xs := by
    apply List.ext_getElem?
    intro j
    rw [List.getElem?_set]
    by_cases hj : i = j
    · subst hj
      have hi' : i < xs.length := by rw [S.vals.1]; exact hl
      rw [if_pos rfl, if_pos hi', List.getElem?_eq_getElem hi']
      rw [List.getD_eq_getElem?_getD, List.getElem?_eq_getElem hi'] at hx
      rw [← hx]; rfl
    · rw [if_neg hj]
  have := k1.put i hr
  rw [hset] at this
  exact this
theorem St.Le.freeze_lst {s : St} (d : Nat) {t : TypeId} {sz : Nat} {es : List V} (h : look s.heap d = some (.lst t sz es)) :
    s.Le ⟨V.frzL d (.sl false es) .junk s.slots, frzH d (.sl false es) .junk s.heap⟩ := fun w0 O M loc xs w S => ⟨loc, (S.freeze_lst d h).1⟩
theorem St.Le.freeze_var {s : St} (d : Nat) {t : TypeId} {u : V} (h : look s.heap d = some (.var t u)) (hu : u.data = true) :
    s.Le ⟨V.frzL d .junk (.pt u) s.slots, frzH d .junk (.pt u) s.heap⟩ := fun w0 O M loc xs w S => ⟨loc, (S.freeze_var d h hu).1⟩
end Go.AM
namespace Go.AM
open V (Le LeL)
def Owned (H : Heap) (loc : Nat → Value) (b : Nat) : Prop := ∃ id, (look H id).isSome = true ∧ blk (loc id) = some b
def Spec (P : Program) (f : FuncId) (args : List V) (H : Heap) (post : V → Heap → Prop) : Prop :=
  ∀ (w : World) (O : Nat → Prop) (xs : List Value) (loc : Nat → Value), SimAt w O (Owned H loc) H loc args xs w →
    Calls P f xs.toArray w (fun e w' => ∃ r H' x loc', post r H' ∧ e = .returned x ∧ SimAt w O (Owned H loc) H' loc' [r] [x] w')
def Fn (P : Program) (f : FuncId) (args : List V) (r : V) : Prop := Spec P f args [] fun r' H' => r' = r ∧ H' = []
def OwnPost (t : TypeId) (sz : Nat) (Q : List V → Prop) : V → Heap → Prop := fun r H' => ∃ es, Q es ∧ r = .own 0 ∧ H' = [(0, .lst t sz es)]
def hasBody (P : Program) (f : FuncId) : Prop := ∃ fn c, P.funcs[f]? = some fn ∧ fn.body = some c ∧ (fn.name == "runtime.NumGoroutine") = false
def CallS (P : Program) (fv : V) (vs : List V) (s : St) (K : V → St → Prop) : Prop :=
  ∀ w0 O M loc xs w fx ys, SimAt w0 O M s.heap loc s.slots xs w → Rel (env w O s.heap loc) fx fv → RelL (env w O s.heap loc) ys vs →
    (∃ f arr, fx = .func (.func f) #[] arr ∧ ((hasBody P f ∧
      Calls P f (ys.toArray ++ arr) w (fun e w' => ∃ v s' x loc', K v s' ∧ e = .returned x ∧ SimAt w0 O M s'.heap loc' s'.slots xs w' ∧ Rel (env w' O s'.heap loc') x v)) ∨
      ∃ v x, (callFunc f (ys.toArray ++ arr)).run P w = .ok (.value x) w ∧ K v s ∧ Rel (env w O s.heap loc) x v)) ∨
    ∃ f first, fx = .func (.func f) first #[] ∧ hasBody P f ∧
      Calls P f (first ++ ys.toArray) w (fun e w' => ∃ v s' x loc', K v s' ∧ e = .returned x ∧ SimAt w0 O M s'.heap loc' s'.slots xs w' ∧ Rel (env w' O s'.heap loc') x v)
def stepR (P : Program) (o : Oper) (s : St) (K : V → St → Prop) : Prop := match o.op with
  | .call { callee := .value x, args, argTypes } => CallS P (ev s.slots x) (args.toList.map (ev s.slots)) s K
  | _ => opK P o s K
def evalR (P : Program) (ops : Array Oper) : List Oper → St → (St → Prop) → Prop
  | [], s, K => K s
  | o :: rest, s, K => match o.guard with
    | none => stepR P o s fun v s' => evalR P ops rest (s'.put o.dst v) K
    | some (j, want) => match (ops[j]?).bind (·.dst) with
      | some d => match s.slots.getD d .any with
        | .sc (.bool b) => (b = want → stepR P o ⟨s.slots.set d (.sc (.bool want)), s.heap⟩ fun v s' => evalR P ops rest (s'.put o.dst v) K) ∧
            (b = (!want) → evalR P ops rest ((⟨s.slots.set d (.sc (.bool (!want))), s.heap⟩ : St).put o.dst (.sc undef)) K)
        | .sc (.tuple _) => evalR P ops rest (s.put o.dst (.sc undef)) K
        | _ => False
      | none => False
section
variable {P : Program} {w0 : World} {O M : Nat → Prop} {s : St} {loc : Nat → Value} {a : Act} {w : World} {o : Oper}
theorem put_sim (S : SimAt w0 O M s.heap loc s.slots a.tmps.toList w) {x : Value} {v : V} (hr : Rel (env w O s.heap loc) x v) (d : Option Tmp) :
    SimAt w0 O M (s.put d v).heap loc (s.put d v).slots (a.put d x).tmps.toList w ∧ (a.put d x).defers = a.defers := by
  cases d with
  | none => exact ⟨S, rfl⟩
  | some d =>
    refine ⟨?_, rfl⟩
    have := S.put d hr
    simpa [St.put, Act.put] using this
theorem run_callFunc {f : FuncId} (h : hasBody P f) (args : Array Value) (w : World) : (callFunc f args).run P w = .ok (.enter f args) w := by
  obtain ⟨fn, c, h1, h2, h3⟩ := h
  have h4 : fn.body.isNone = false := by rw [h2]; rfl
  have h5 : ¬ fn.name = "runtime.NumGoroutine" := by simpa using h3
  simp [callFunc, Sem.run_bind, h1, h2, h5]
theorem step_sound {K : V → St → Prop} (h : stepR P o s K) (hd : a.defers = []) (S : SimAt w0 O M s.heap loc s.slots a.tmps.toList w) {next : Act → World → Prop} {Q : Exit → Act → World → Prop}
    (hn : ∀ v s' loc' x w', K v s' → SimAt w0 O M s'.heap loc' s'.slots a.tmps.toList w' → Rel (env w' O s'.heap loc') x v → next (a.put o.dst x) w') : o.wp P a w next Q := by
  have other : opK P o s K → o.wp P a w next Q := fun h => (op_sound h S).wp (fun v s' x loc' w' h1 h2 h3 => hn v s' loc' x w' h1 h2 h3)
  unfold stepR at h
  split at h
  · rename_i x args argTypes hop
    rcases h w0 O M loc a.tmps.toList w (a.eval x) (args.toList.map a.eval) S (ev_rel S.vals x) (by
      refine ⟨by simp, fun i hi => ?_⟩
      have hi' : i < args.toList.length := by simpa using hi
      rw [getD_map_lt hi', getD_map_lt hi']; exact ev_rel S.vals _) with ⟨f, arr, hfx, hbc⟩ | ⟨f, first, hfx, hb, hc⟩
    rotate_left
    · have hrun : (execOp a.eval o).run P w = .ok (.enter f (first ++ (args.toList.map a.eval).toArray)) w := by
        unfold execOp
        simp only [hop, resolve, Sem.run_bind, hfx, Deferred.ofValue, Sem.run_pure, Result.andThen_ok, invoke]
        rw [run_callFunc hb]
        congr 2
        apply Array.ext'
        simp
      unfold Oper.wp
      rw [hrun]
      refine hc.mono ?_
      rintro e w' ⟨v, s', y, loc', hK, rfl, S', hr⟩
      exact hn v s' loc' y w' hK S' hr
    rcases hbc with ⟨hb, hc⟩ | ⟨v, y, hrun0, hK, hr⟩
    · have hrun : (execOp a.eval o).run P w = .ok (.enter f ((args.toList.map a.eval).toArray ++ arr)) w := by
        unfold execOp
        simp only [hop, resolve, Sem.run_bind, hfx, Deferred.ofValue, Sem.run_pure, Result.andThen_ok, invoke]
        rw [run_callFunc hb]
        congr 2
        apply Array.ext'
        simp
      unfold Oper.wp
      rw [hrun]
      refine hc.mono ?_
      rintro e w' ⟨v, s', y, loc', hK, rfl, S', hr⟩
      exact hn v s' loc' y w' hK S' hr
    · have hrun : (execOp a.eval o).run P w = .ok (.value y) w := by
        unfold execOp
        simp only [hop, resolve, Sem.run_bind, hfx, Deferred.ofValue, Sem.run_pure, Result.andThen_ok, invoke]
        rw [← hrun0]
        congr 2
        apply Array.ext'
        simp
      unfold Oper.wp
      rw [hrun]
      exact hn v s loc y w hK S hr
  · exact other h
theorem yielded_tuple {ops : Array Oper} {j d : Nat} {a : Act} {arr : Array Value} {E : Env} (hdst : (ops[j]?).bind (·.dst) = some d) (h : Rel E (a.tmps.toList.getD d undef) (.sc (.tuple arr))) : yielded ops a.tmps j = none := by
  have e := Rel.sc_iff.1 h
  rw [List.getD_eq_getElem?_getD, Array.getElem?_toList] at e
  unfold yielded
  rw [hdst]
  show (match a.tmps[d]? with | some (.bool b) => some b | _ => none) = none
  cases hq : a.tmps[d]? with
  | none => rfl
  | some y =>
    rw [hq] at e
    have : y = .tuple arr := e
    rw [this]
theorem evalR_sound {ops : Array Oper} : ∀ {l : List Oper} {s : St} {K : St → Prop} {loc : Nat → Value} {a : Act} {w : World} {Q : Exit → Act → World → Prop}, evalR P ops l s K → a.defers = [] → SimAt w0 O M s.heap loc s.slots a.tmps.toList w →
    (∀ s' loc' a' w', K s' → a'.defers = [] → SimAt w0 O M s'.heap loc' s'.slots a'.tmps.toList w' → Q .normal a' w') → wpList P ops Q l a w
  | [], s, K, loc, a, w, Q, h, hd, S, hQ => hQ s loc a w h hd S
  | o :: rest, s, K, loc, a, w, Q, h, hd, S, hQ => by
    have go : ∀ {s : St} {loc : Nat → Value}, SimAt w0 O M s.heap loc s.slots a.tmps.toList w → stepR P o s (fun v s' => evalR P ops rest (s'.put o.dst v) K) → o.wp P a w (wpList P ops Q rest) Q := by
      intro s loc S h
      refine step_sound h hd S fun v s' loc' x w' hK S' hr => ?_
      obtain ⟨S'', hd'⟩ := put_sim S' hr o.dst
      exact evalR_sound hK (hd'.trans hd) S'' hQ
    unfold evalR at h
    unfold wpList
    split at h
    · rename_i hg
      rw [if_pos (by simp [Region.wanted, hg])]
      exact .inl (go S h)
    · rename_i j want hg
      split at h
      · rename_i d hdst
        split at h
        · rename_i b hb
          have hx : a.tmps[d]? = some (.bool b) := by
            have := S.vals.getD d
            rw [hb] at this
            have e := Rel.sc_iff.1 this
            rw [List.getD_eq_getElem?_getD, Array.getElem?_toList] at e
            cases hq : a.tmps[d]? with
            | none => rw [hq] at e; simp [undef] at e
            | some y => rw [hq] at e; simp at e; rw [e]
          have hy : yielded ops a.tmps j = some b := by simp [yielded, hdst, hx]
          have hset : SimAt w0 O M s.heap loc (s.slots.set d (.sc (.bool b))) a.tmps.toList w := by
            have := S.put d (Rel.sc (.bool b))
            have e : a.tmps.toList.set d (.bool b) = a.tmps.toList := by
              apply List.ext_getElem?
              intro i
              rw [List.getElem?_set]
              by_cases hi : d = i
              · subst hi
                have : d < a.tmps.toList.length := by rw [Array.length_toList]; exact (Array.getElem?_eq_some_iff.1 hx).1
                rw [if_pos rfl, if_pos this, Array.getElem?_toList, hx]
              · rw [if_neg hi]
            rwa [e] at this
          by_cases hw : b = want
          · rw [if_pos (by simp [Region.wanted, hg, hy, hw])]
            subst hw
            exact .inl (go (s := ⟨s.slots.set d (.sc (.bool b)), s.heap⟩) hset (h.1 rfl))
          · have hw' : b = (!want) := by cases b <;> cases want <;> simp_all
            rw [if_neg (by simp [Region.wanted, hg, hy, hw])]
            have hset' : SimAt w0 O M s.heap loc (s.slots.set d (.sc (.bool (!want)))) a.tmps.toList w := by rw [← hw']; exact hset
            obtain ⟨S'', hd'⟩ := put_sim (s := ⟨s.slots.set d (.sc (.bool (!want))), s.heap⟩) hset' (Rel.sc undef) o.dst
            exact evalR_sound (h.2 hw') (hd'.trans hd) S'' hQ
        · rename_i arr hb
          have hy : yielded ops a.tmps j = none := yielded_tuple hdst (by rw [← hb]; exact S.vals.getD d)
          rw [if_neg (by simp [Region.wanted, hg, hy])]
          obtain ⟨S'', hd'⟩ := put_sim (s := s) S (Rel.sc undef) o.dst
          exact evalR_sound h (hd'.trans hd) S'' hQ
        · exact h.elim
      · exact h.elim
end
def Runs (P : Program) (f : FuncId) (post : V → Heap → Prop) (todo : List Item) (s : St) : Prop :=
  ∀ (w0 : World) (O M : Nat → Prop) (loc : Nat → Value) (a : Act) (w : World) (b : Frame) (cs : List Frame), a.defers = [] → SimAt w0 O M s.heap loc s.slots a.tmps.toList w → b.fn = f → b.kind = .normal →
    ∃ x w' fr, (∃ r H' loc', post r H' ∧ SimAt w0 O M H' loc' [r] [x] w') ∧ Steps P (lone (b.at a todo) cs w) (lone fr cs w') ∧ fr.fn = f ∧ fr.leaving P w' (.returned x)
section
variable {P : Program} {f : FuncId} {post : V → Heap → Prop} {k : List Item} {s : St}
theorem Runs.step {todo todo' : List Item} (hs : ∀ (b : Frame) (a : Act) (cs : List Frame) (w : World), step P (lone (b.at a todo) cs w) = .next (lone (b.at a todo') cs w)) (h : Runs P f post todo' s) : Runs P f post todo s := by
  intro w0 O M loc a w b cs hd S hb hk
  obtain ⟨x, w', fr, h1, h2, h3⟩ := h w0 O M loc a w b cs hd S hb hk
  exact ⟨x, w', fr, h1, .head (hs b a cs w) h2, h3⟩
theorem Runs.weaken {todo : List Item} {s' : St} (hle : s.Le s') (h : Runs P f post todo s') : Runs P f post todo s := by
  intro w0 O M loc a w b cs hd S hb hk
  obtain ⟨loc', S'⟩ := hle w0 O M loc a.tmps.toList w S
  exact h w0 O M loc' a w b cs hd S' hb hk
theorem Runs.seq {x y : Code} (h : Runs P f post (.code x :: .code y :: k) s) : Runs P f post (.code (.seq x y) :: k) s := h.step fun _ _ _ _ => step_seq
theorem Runs.skip (h : Runs P f post k s) : Runs P f post (.code .skip :: k) s := h.step fun _ _ _ _ => step_skip
theorem Runs.label {l : Nat} (h : Runs P f post k s) : Runs P f post (.code (.label l) :: k) s := h.step fun _ _ _ _ => step_label
theorem Runs.block {id : Nat} {c : Code} (h : Runs P f post (.code c :: .inBlock id :: k) s) : Runs P f post (.code (.block id c) :: k) s := h.step fun _ _ _ _ => step_block
theorem Runs.inBlock {id : Nat} (h : Runs P f post k s) : Runs P f post (.inBlock id :: k) s := h.step fun _ _ _ _ => step_inBlock
theorem Runs.loop {c : Code} (h : Runs P f post (.code c :: .inLoop c :: k) s) : Runs P f post (.code (.loop c) :: k) s := h.step fun _ _ _ _ => step_loop
theorem Runs.inLoop {c : Code} (h : Runs P f post (.code c :: .inLoop c :: k) s) : Runs P f post (.inLoop c :: k) s := h.step fun _ _ _ _ => step_inLoop
theorem Runs.scope {c : Code} (h : Runs P f post (.code c :: .inScope c :: k) s) : Runs P f post (.code (.scope c) :: k) s := h.step fun _ _ _ _ => step_scope
theorem Runs.inScope {c : Code} (h : Runs P f post k s) : Runs P f post (.inScope c :: k) s := h.step fun _ _ _ _ => step_inScope
theorem Runs.exit {id : Nat} {k' : List Item} (he : exitTo id k = some k') (h : Runs P f post k' s) : Runs P f post (.code (.exit id) :: k) s := h.step fun _ _ _ _ => step_exit he
theorem Runs.cond {c : Operand} {x y : Code} {t : Bool} (hc : ev s.slots c = .sc (.bool t)) (h1 : t = true → Runs P f post (.code x :: k) s) (h2 : t = false → Runs P f post (.code y :: k) s) :
    Runs P f post (.code (.cond c x y) :: k) s := by
  intro w0 O M loc a w b cs hd S hb hk
  have hr := ev_rel S.vals c
  rw [hc] at hr
  have he := Rel.sc_iff.1 hr
  cases t with
  | true =>
    obtain ⟨x, w', fr, q1, q2, q3⟩ := h1 rfl w0 O M loc a w b cs hd S hb hk
    exact ⟨x, w', fr, q1, .head (step_cond he) (by simpa using q2), q3⟩
  | false =>
    obtain ⟨x, w', fr, q1, q2, q3⟩ := h2 rfl w0 O M loc a w b cs hd S hb hk
    exact ⟨x, w', fr, q1, .head (step_cond he) (by simpa using q2), q3⟩
theorem Runs.of_wp {c : Code} (h : ∀ (w0 : World) (O M : Nat → Prop) (loc : Nat → Value) (a : Act) (w : World), a.defers = [] → SimAt w0 O M s.heap loc s.slots a.tmps.toList w →
    c.wp P (fun e a' w' => e = .normal ∧ ∃ s' loc', Runs P f post k s' ∧ a'.defers = [] ∧ SimAt w0 O M s'.heap loc' s'.slots a'.tmps.toList w') a w) : Runs P f post (.code c :: k) s := by
  intro w0 O M loc a w b cs hd S hb hk
  obtain ⟨e, a', w', ⟨rfl, s', loc', hR, hd', S'⟩, harr⟩ := h w0 O M loc a w hd S b k cs
  obtain ⟨x, w'', fr, q1, q2, q3⟩ := hR w0 O M loc' a' w' b cs hd' S' hb hk
  exact ⟨x, w'', fr, q1, Steps.trans harr q2, q3⟩
theorem Runs.region {id : Nat} {l : List Oper} (h : evalR P l.toArray l s (Runs P f post k)) : Runs P f post (.code (.region id l.toArray false) :: k) s :=
  Runs.of_wp fun w0 O M loc a w hd S => wp_region_lit (evalR_sound h hd S fun s' loc' a' w' hR hd' S' => ⟨rfl, s', loc', hR, hd', S'⟩)
def resK (P : Program) (s : St) : List ResultVar → (List V → Prop) → Prop
  | [], K => K []
  | .tmp t :: rs, K => resK P s rs fun vs => K (s.slots.getD t .any :: vs)
  | .cell t ty :: rs, K => valK P (.load ty (.tmp t)) (ev s.slots) s.heap fun v => resK P s rs fun vs => K (v :: vs)
def pack : List V → V
  | [v] => v
  | vs => .tup vs
def resOne (tmps : Array Value) : ResultVar → Sem Value
  | .tmp t => pure (tmps.getD t undef)
  | .cell a t => do loadVar t (← asAddr (tmps.getD a undef))
theorem results_eq (fn : Func) (tmps : Array Value) : results fn tmps = (do let vs ← fn.results.mapM (resOne tmps); pure (if h : vs.size = 1 then vs[0] else .tuple vs)) := by
  unfold results
  congr 1
theorem res_sound {w : World} {O : Nat → Prop} {H : Heap} {loc : Nat → Value} {tmps : Array Value} (hv : RelL (env w O s.heap loc) tmps.toList s.slots) (hobj : ∀ id o, look s.heap id = some o → ObjOK (env w O s.heap loc) id o) :
    ∀ (rs : List ResultVar) (K : List V → Prop), resK P s rs K → ∃ xs vs, (rs.mapM (resOne tmps)).run P w = .ok xs w ∧ RelL (env w O s.heap loc) xs vs ∧ K vs
  | [], K, h => ⟨[], [], rfl, .nil _, h⟩
  | .tmp t :: rs, K, h => by
    obtain ⟨xs, vs, h1, h2, h3⟩ := res_sound (H := H) hv hobj rs _ h
    refine ⟨tmps.getD t undef :: xs, _, ?_, .cons (rel_getD hv t) h2, h3⟩
    rw [List.mapM_cons, Sem.run_bind]
    simp only [resOne, Sem.run_pure, Result.andThen_ok]
    rw [Sem.run_bind, h1]
    rfl
  | .cell t ty :: rs, K, h => by
    obtain ⟨x, v, k1, k2, k3⟩ := val_sound (o := ⟨none, .load ty (.tmp t), 0, "", #[], none⟩) h rfl (ρ := fun | .tmp t => tmps.getD t undef | .const v => v | .global g => .pointer (some ⟨g, 0, none⟩) | .func f => .func (.func f) #[] #[]) (fun y => by
      have := ev_rel (a := ⟨tmps, []⟩) hv y
      cases y <;> exact this) hobj
    obtain ⟨xs, vs, h1, h2, h3⟩ := res_sound (H := H) hv hobj rs _ k3
    refine ⟨x :: xs, _, ?_, .cons k2 h2, h3⟩
    have hl : ∃ ad, tmps.getD t undef = .pointer (some ad) ∧ (loadVar ty ad).run P w = .ok x w := by
      unfold execOp at k1
      simp only [Sem.run_bind, Instr.loadAt] at k1
      generalize tmps.getD t undef = y at k1
      cases y with
      | pointer o => cases o with
        | some ad =>
          refine ⟨ad, rfl, ?_⟩
          simp only [Instr.sureAddr, Sem.run_pure, Result.andThen_ok] at k1
          cases hq : (loadVar ty ad).run P w with
          | ok z w'' => rw [hq] at k1; simp at k1; obtain ⟨rfl, rfl⟩ := k1; rfl
          | halt z w'' => rw [hq] at k1; simp at k1
        | none => simp [Instr.sureAddr] at k1
      | _ => simp [Instr.sureAddr] at k1
    obtain ⟨ad, e1, e2⟩ := hl
    have hone : (resOne tmps (.cell t ty)).run P w = .ok x w := by
      unfold resOne
      rw [Sem.run_bind, e1]
      simpa [asAddr] using e2
    rw [List.mapM_cons, Sem.run_bind]
    simp only [hone, Result.andThen_ok]
    rw [Sem.run_bind, h1]
    rfl
def packX : List Value → Value
  | [x] => x
  | xs => .tuple xs.toArray
theorem results_run {w : World} {fn : Func} {tmps : Array Value} {xs : List Value}
    (h : (fn.results.toList.mapM (resOne tmps)).run P w = .ok xs w) :
    (results fn tmps).run P w = .ok (packX xs) w := by
  rw [results_eq]
  rw [Sem.run_bind, Array.mapM_eq_mapM_toList, Sem.run_map, h]
  simp only [Result.andThen_ok, Sem.run_pure]
  congr 1
  match xs with
  | [] => rfl
  | [x] => rfl
  | x :: y :: xs => simp [packX]
theorem Runs.ret {fn : Func} (hf : P.funcs[f]? = some fn) (h : resK P s fn.results.toList fun vs => ∃ r H', post r H' ∧ ∀ w0 O M loc x w, SimAt w0 O M s.heap loc [pack vs] [x] w → ∃ loc', SimAt w0 O M H' loc' [r] [x] w) :
    Runs P f post (.code .ret :: k) s := by
  intro w0 O M loc a w b cs hd S hb hk
  obtain ⟨xs, vs, h1, h2, r, H', hp, hsim⟩ := res_sound (H := s.heap) S.vals S.objs _ _ h
  have hrel : Rel (env w O s.heap loc) (packX xs) (pack vs) := by
    cases vs with
    | nil =>
      have : xs = [] := List.eq_nil_of_length_eq_zero (by rw [h2.1]; rfl)
      subst this
      exact Rel.tup_iff.2 ⟨#[], rfl, .nil _⟩
    | cons v vs' =>
      cases vs' with
      | nil =>
        obtain ⟨x, rfl⟩ := List.length_eq_one_iff.1 (show xs.length = 1 by rw [h2.1]; rfl)
        exact h2.uncons.1
      | cons v2 vs'' =>
        match xs, h2 with
        | x :: y :: xs', h2 => exact Rel.tup_iff.2 ⟨_, rfl, h2⟩
        | [x], h2 => exact absurd h2.1 (by simp)
        | [], h2 => exact absurd h2.1 (by simp)
  obtain ⟨loc', S'⟩ := hsim w0 O M loc _ w (S.vals' (RelL.cons hrel (.nil _)))
  refine ⟨_, w, { b.at a (.code .ret :: k) with mode := .returning }, ⟨r, H', loc', hp, S'⟩, .one step_ret, hb, rfl, hd, hk, fn, by rw [← hf, ← hb]; rfl, ?_⟩
  exact results_run h1
theorem drop_data {v r : V} (hle : Le v r) (hd : r.data = true) : ∀ w0 O M loc x w, SimAt w0 O M s.heap loc [v] [x] w → ∃ loc', SimAt w0 O M [] loc' [r] [x] w := by
  intro w0 O M loc x w S
  refine ⟨loc, S.clean (.cons hle .nil) ?_ trivial⟩
  simp [V.usesL, V.uses_data _ _ hd]
theorem Runs.ret_data {fn : Func} (hf : P.funcs[f]? = some fn) (h : resK P s fn.results.toList fun vs => ∃ r, Le (pack vs) r ∧ r.data = true ∧ post r []) : Runs P f post (.code .ret :: k) s := by
  refine Runs.ret hf ?_
  revert h
  have mono : ∀ (rs : List ResultVar) (K K' : List V → Prop), (∀ vs, K vs → K' vs) → resK P s rs K → resK P s rs K' := by
    intro rs
    induction rs with
    | nil => intro K K' h hk; exact h _ hk
    | cons r rs ih =>
      intro K K' h hk
      cases r with
      | tmp t => exact ih _ _ (fun vs => h _) hk
      | cell t ty =>
        simp only [resK, valK] at hk ⊢
        revert hk
        split
        · split
          · rintro ⟨h1, h2, h3⟩; exact ⟨h1, h2, ih _ _ (fun vs => h _) h3⟩
          · split
            · rintro ⟨h1, h2, h3, h4⟩; exact ⟨h1, h2, h3, ih _ _ (fun vs => h _) h4⟩
            · exact fun h => h
          · exact fun h => h
        · exact fun h => h
  refine mono _ _ _ ?_
  rintro vs ⟨r, h1, h2, h3⟩
  exact ⟨r, [], h3, drop_data h1 h2⟩
theorem own_out {d : Nat} {t : TypeId} {sz : Nat} {es : List V} (hl : look s.heap d = some (.lst t sz es)) :
    ∀ w0 O M loc x w, SimAt w0 O M s.heap loc [.own d] [x] w → ∃ loc', SimAt w0 O M [(0, .lst t sz es)] loc' [.own 0] [x] w := by
  intro w0 O M loc x w S
  have S1 : SimAt w0 O M [(d, .lst t sz es)] loc [.own d] [x] w := S.clean (.refl _) (by simp [V.usesL, V.uses, look]) ⟨⟨hl, trivial⟩, trivial⟩
  refine ⟨fun _ => loc d, ?_, ?_, ?_, ?_, S1.ext, S1.O_lt⟩
  · have hr := (S1.vals.uncons).1
    obtain ⟨e, o, h1, h2⟩ := hr.own_inv
    refine RelL.cons ?_ (.nil _)
    have hob := S1.objs d _ (look_eq d _ _)
    have hv : ∃ a n c, loc d = .slice a n c := by rcases blk_own hob with ⟨g, c, e, _⟩ | ⟨e, _⟩ <;> exact ⟨_, _, _, e⟩
    have := Rel.own (E := env w O [(0, .lst t sz es)] (fun _ => loc d)) 0 (.lst t sz es) (look_eq 0 (.lst t sz es) []) rfl hv
    rw [e]; exact this
  · intro id o ho
    obtain ⟨rfl, rfl⟩ := look_one ho
    obtain ⟨hz, xs, q, hf⟩ := S1.objs d _ (look_eq d _ _)
    have hF : ∀ b, (env w O [(d, .lst t sz es)] loc).F b → (env w O [(0, .lst t sz es)] (fun _ => loc d)).F b ∧ (env w O [(0, .lst t sz es)] (fun _ => loc d)).w.heap[b]? = (env w O [(d, .lst t sz es)] loc).w.heap[b]? :=
      fun b hb => ⟨⟨hb.1, hb.2.1, fun id hid => hb.2.2 d (by simp [look])⟩, rfl⟩
    exact ⟨hz, xs, q, hf.1, fun i j hi hj => (hf.2 i j hi hj).data_mono hF (V.data_getD_cells hz.2 i j)⟩
  · intro id id' b h1 h2 _ _
    rw [look_one' h1, look_one' h2]
  · intro id b _ h2
    exact S1.own d b (by simp [look]) h2
theorem Runs.ret_own {fn : Func} (hf : P.funcs[f]? = some fn) {j : Tmp} (hr : fn.results = #[.tmp j]) {d : Nat} (hs : s.slots.getD j .any = .own d) {t : TypeId} {sz : Nat} {es : List V} (hl : look s.heap d = some (.lst t sz es)) {Q : List V → Prop} (hq : Q es) :
    Runs P f (OwnPost t sz Q) (.code .ret :: k) s := by
  refine Runs.ret hf ?_
  rw [hr]
  refine ⟨.own 0, [(0, .lst t sz es)], ⟨es, hq, rfl, rfl⟩, ?_⟩
  rw [hs]
  exact own_out hl
end
theorem spec_of_runs {P : Program} {f : FuncId} {fn : Func} {c : Code} {args : List V} {H : Heap} {post : V → Heap → Prop} (hf : P.funcs[f]? = some fn) (hb : fn.body = some c)
    (h : Runs P f post [.code c] ⟨args ++ List.replicate (fn.ntmps - args.length) .any, H⟩) : Spec P f args H post := by
  intro w O xs loc S cs
  have hl : xs.length = args.length := S.vals.1
  let b : Frame := { (default : Frame) with fn := f, kind := .normal }
  have henter : Frame.enter P f xs.toArray .normal = b.at { tmps := xs.toArray ++ Array.replicate (fn.ntmps - xs.length) undef, defers := [] } [.code c] := by
    simp [Frame.enter, Frame.at, hf, hb, b]
  have S' : SimAt w O (Owned H loc) H loc (args ++ List.replicate (fn.ntmps - args.length) .any) (xs.toArray ++ Array.replicate (fn.ntmps - xs.length) undef).toList w := by
    refine S.vals' ?_
    rw [Array.toList_append]
    refine S.vals.append ⟨by simp [hl], fun i hi => ?_⟩
    have : (List.replicate (fn.ntmps - args.length) V.any).getD i .any = .any := by simp [List.getD_eq_getElem?_getD, List.getElem?_replicate]; split <;> rfl
    rw [this]; exact .any _
  obtain ⟨x, w', fr, ⟨r, H', loc', hp, S''⟩, h2, h3, h4⟩ := h w O (Owned H loc) loc ⟨xs.toArray ++ Array.replicate (fn.ntmps - xs.length) undef, []⟩ w b cs rfl S' rfl rfl
  rw [← henter] at h2
  exact ⟨.returned x, w', fr, ⟨r, H', x, loc', hp, rfl, S''⟩, h2, h3, h4⟩
end Go.AM
namespace Go.AM
open V (Le LeL)
section
variable {P : Program} {s : St} {K : V → St → Prop}
theorem Le.dataL {vs us : List V} (h : LeL vs us) : True := trivial
def Others (O : Nat → Prop) (H : Heap) (loc : Nat → Value) (b : Nat) : Prop := O b ∨ Owned H loc b
theorem to_callee {w0 : World} {O M : Nat → Prop} {H : Heap} {loc : Nat → Value} {vs : List V} {xs : List Value} {w : World} (S : SimAt w0 O M H loc vs xs w) {us : List V} {ys : List Value} (hr : RelL (env w O H loc) ys us) (hd : V.dataL us = true) :
    SimAt w (Others O H loc) (Owned [] loc) [] loc us ys w := by
  have hF : ∀ b, (env w O H loc).F b → (env w (Others O H loc) [] loc).F b ∧ (env w (Others O H loc) [] loc).w.heap[b]? = (env w O H loc).w.heap[b]? := by
    intro b hb
    refine ⟨⟨hb.1, ?_, fun id h => by simp [look] at h⟩, rfl⟩
    rintro (h | ⟨id, h1, h2⟩)
    · exact hb.2.1 h
    · exact hb.2.2 id h1 h2
  refine ⟨⟨hr.1, fun i hi => (hr.2 i hi).data_mono hF (V.dataL_getD hd i)⟩, fun id o h => by simp [look] at h, fun id id' b h => by simp [look] at h, fun id b h => by simp [look] at h, Ext.refl w _, ?_⟩
  rintro b (h | ⟨id, h1, h2⟩)
  · exact Nat.lt_of_lt_of_le (S.O_lt b h) S.ext.size
  · exact S.lt h1 h2
theorem CallS.fn {f : FuncId} {caps vs us : List V} {r : V} (hs : Fn P f us r) (hb : hasBody P f) (hle : LeL (vs ++ caps) us) (hd : V.dataL us = true) (hK : K r s) : CallS P (.fn f caps) vs s K := by
  intro w0 O M loc xs w fx ys S hf hy
  obtain ⟨arr, rfl, harr⟩ := Rel.fn_iff.1 hf
  refine .inl ⟨f, arr, rfl, .inl ⟨hb, ?_⟩⟩
  have hr := (hy.append harr).le hle
  have S1 := to_callee S hr hd
  have := hs w (Others O s.heap loc) _ loc S1
  rw [show ys.toArray ++ arr = (ys ++ arr.toList).toArray by simp]
  refine this.mono ?_
  rintro e w' ⟨r', H', x, loc', ⟨rfl, rfl⟩, rfl, S2⟩
  have hg : Grows w w' := ⟨S2.ext.os, S2.ext.tape, S2.ext.output, S2.ext.size, fun b hb _ => S2.ext.block b hb (by rintro ⟨id, h1, h2⟩; simp [look] at h1)⟩
  have hx := (S2.vals.uncons).1
  have hdr : r'.data = true := rel_data (E := env w' (Others O s.heap loc) [] loc') (fun id => rfl) hx
  refine ⟨r', s, x, loc, hK, rfl, S.grows hg, hx.data_mono (E := env w' (Others O s.heap loc) [] loc') (E' := env w' O s.heap loc) (fun b hb => ⟨⟨hb.1, fun h => hb.2.1 (.inl h), fun id h1 h2 => hb.2.1 (.inr ⟨id, h1, h2⟩)⟩, rfl⟩) hdr⟩
theorem CallS.bnd {f : FuncId} {first : Array Value} {vs us : List V} {r : V} (hs : Fn P f us r) (hb : hasBody P f) (hle : LeL (first.toList.map V.sc ++ vs) us) (hd : V.dataL us = true) (hK : K r s) : CallS P (.sc (.func (.func f) first #[])) vs s K := by
  intro w0 O M loc xs w fx ys S hf hy
  obtain rfl := Rel.sc_iff.1 hf
  refine .inr ⟨f, first, rfl, hb, ?_⟩
  have hfr : RelL (env w O s.heap loc) first.toList (first.toList.map V.sc) := by
    refine ⟨by simp, fun i hi => ?_⟩
    have hi' : i < first.toList.length := by simpa using hi
    rw [getD_map_lt hi', List.getD_eq_getElem?_getD, List.getElem?_eq_getElem hi']
    exact Rel.sc _
  have hr := (hfr.append hy).le hle
  have S1 := to_callee S hr hd
  have := hs w (Others O s.heap loc) _ loc S1
  rw [show first ++ ys.toArray = (first.toList ++ ys).toArray by simp]
  refine this.mono ?_
  rintro e w' ⟨r', H', x, loc', ⟨rfl, rfl⟩, rfl, S2⟩
  have hg : Grows w w' := ⟨S2.ext.os, S2.ext.tape, S2.ext.output, S2.ext.size, fun b hb _ => S2.ext.block b hb (by rintro ⟨id, h1, h2⟩; simp [look] at h1)⟩
  have hx := (S2.vals.uncons).1
  have hdr : r'.data = true := rel_data (E := env w' (Others O s.heap loc) [] loc') (fun id => rfl) hx
  refine ⟨r', s, x, loc, hK, rfl, S.grows hg, hx.data_mono (E := env w' (Others O s.heap loc) [] loc') (E' := env w' O s.heap loc) (fun b hb => ⟨⟨hb.1, fun h => hb.2.1 (.inl h), fun id h1 h2 => hb.2.1 (.inr ⟨id, h1, h2⟩)⟩, rfl⟩) hdr⟩
theorem CallS.rel {f : FuncId} {caps vs us : List V} {Q : V → Prop} (hs : Spec P f us [] fun r H' => Q r ∧ H' = []) (hb : hasBody P f) (hle : LeL (vs ++ caps) us) (hd : V.dataL us = true) (hK : ∀ r, Q r → r.data = true → K r s) : CallS P (.fn f caps) vs s K := by
  intro w0 O M loc xs w fx ys S hf hy
  obtain ⟨arr, rfl, harr⟩ := Rel.fn_iff.1 hf
  refine .inl ⟨f, arr, rfl, .inl ⟨hb, ?_⟩⟩
  have hr := (hy.append harr).le hle
  have S1 := to_callee S hr hd
  have := hs w (Others O s.heap loc) _ loc S1
  rw [show ys.toArray ++ arr = (ys ++ arr.toList).toArray by simp]
  refine this.mono ?_
  rintro e w' ⟨r', H', x, loc', ⟨hq, rfl⟩, rfl, S2⟩
  have hg : Grows w w' := ⟨S2.ext.os, S2.ext.tape, S2.ext.output, S2.ext.size, fun b hb _ => S2.ext.block b hb (by rintro ⟨id, h1, h2⟩; simp [look] at h1)⟩
  have hx := (S2.vals.uncons).1
  have hdr : r'.data = true := rel_data (E := env w' (Others O s.heap loc) [] loc') (fun id => rfl) hx
  refine ⟨r', s, x, loc, hK r' hq hdr, rfl, S.grows hg, hx.data_mono (E := env w' (Others O s.heap loc) [] loc') (E' := env w' O s.heap loc) (fun b hb => ⟨⟨hb.1, fun h => hb.2.1 (.inl h), fun id h1 h2 => hb.2.1 (.inr ⟨id, h1, h2⟩)⟩, rfl⟩) hdr⟩
theorem CallS.own {f : FuncId} {caps vs us : List V} {t : TypeId} {sz : Nat} {Q : List V → Prop} (d : Nat) (hs : Spec P f us [] (OwnPost t sz Q)) (hb : hasBody P f) (hle : LeL (vs ++ caps) us) (hd : V.dataL us = true) (hfree : look s.heap d = none)
    (hK : ∀ es, Q es → V.dataL es = true → K (.own d) ⟨s.slots, (d, .lst t sz es) :: s.heap⟩) : CallS P (.fn f caps) vs s K := by
  intro w0 O M loc xs w fx ys S hf hy
  obtain ⟨arr, rfl, harr⟩ := Rel.fn_iff.1 hf
  refine .inl ⟨f, arr, rfl, .inl ⟨hb, ?_⟩⟩
  have hr := (hy.append harr).le hle
  have S1 := to_callee S hr hd
  have := hs w (Others O s.heap loc) _ loc S1
  rw [show ys.toArray ++ arr = (ys ++ arr.toList).toArray by simp]
  refine this.mono ?_
  rintro e w' ⟨r', H', x, loc', ⟨es, hq, rfl, rfl⟩, rfl, S2⟩
  have hg : Grows w w' := ⟨S2.ext.os, S2.ext.tape, S2.ext.output, S2.ext.size, fun b hb _ => S2.ext.block b hb (by rintro ⟨id, h1, h2⟩; simp [look] at h1)⟩
  have hob := S2.objs 0 _ (look_eq 0 _ _)
  have hdes : V.dataL es = true := hob.1.2
  have hxe : x = loc' 0 := (S2.vals.uncons.1.own_inv).1
  have hnb : ∀ b, blk (loc' 0) = some b → w.heap.size ≤ b := fun b hb => (S2.own 0 b (by simp [look]) hb).2.resolve_right (by rintro ⟨id, h1, h2⟩; simp [look] at h1)
  obtain ⟨k1, k2⟩ := S.new d hfree hg (loc' 0) (.lst t sz es) hnb (fun hrel => by
    obtain ⟨hz, ys', q, hfl⟩ := hob
    refine ⟨hz, ys', ?_, hfl.1, fun i j hi hj => ?_⟩
    · show w'.ownsRow 0 t sz (if d = d then loc' 0 else loc d) _ _
      rw [if_pos rfl]; exact q
    · refine (hfl.2 i j hi hj).data_mono (E := env w' (Others O s.heap loc) [(0, .lst t sz es)] loc') (E' := env w' O ((d, .lst t sz es) :: s.heap) (fun k => if k = d then loc' 0 else loc k)) (fun b hb => ⟨⟨hb.1, fun h => hb.2.1 (.inl h), fun id h1 h2 => ?_⟩, rfl⟩) (V.data_getD_cells hdes i j)
      replace h2 : blk (if id = d then loc' 0 else loc id) = some b := h2
      by_cases e : id = d
      · rw [if_pos e] at h2; exact hb.2.2 0 (by simp [look]) h2
      · rw [if_neg e] at h2
        rw [look_ne e] at h1
        exact hb.2.1 (.inr ⟨id, h1, h2⟩))
  refine ⟨.own d, _, x, _, hK es hq hdes, rfl, k1, ?_⟩
  have hv : ∃ a n c, (env w' O ((d, .lst t sz es) :: s.heap) (fun k => if k = d then loc' 0 else loc k)).loc d = .slice a n c := by
    rcases blk_own (k1.objs d _ (look_eq d _ _)) with ⟨g, c, e, _⟩ | ⟨e, _⟩ <;> exact ⟨_, _, _, e⟩
  have := Rel.own (E := env w' O ((d, .lst t sz es) :: s.heap) (fun k => if k = d then loc' 0 else loc k)) d (.lst t sz es) (look_eq d (.lst t sz es) s.heap) rfl hv
  rw [hxe]
  simpa [env] using this
end
end Go.AM
namespace Go.AM
open V (Le LeL)
def CallD (P : Program) (fv : V) (vs : List V) (K : V → Prop) : Prop := ∃ f caps us r, ((fv = .fn f caps ∧ LeL (vs ++ caps) us) ∨ ∃ first : Array Value, fv = .sc (.func (.func f) first #[]) ∧ LeL (first.toList.map V.sc ++ vs) us) ∧ hasBody P f ∧ Fn P f us r ∧ True ∧ V.dataL us = true ∧ K r
theorem CallD.fn {P : Program} {f : FuncId} {caps vs us : List V} {r : V} {K : V → Prop} (hs : Fn P f us r) (hb : hasBody P f) (hle : LeL (vs ++ caps) us) (hd : V.dataL us = true) (hK : K r) : CallD P (.fn f caps) vs K :=
  ⟨f, caps, us, r, .inl ⟨rfl, hle⟩, hb, hs, trivial, hd, hK⟩
theorem CallD.bnd {P : Program} {f : FuncId} {first : Array Value} {vs us : List V} {r : V} {K : V → Prop} (hs : Fn P f us r) (hb : hasBody P f) (hle : LeL (first.toList.map V.sc ++ vs) us) (hd : V.dataL us = true) (hK : K r) : CallD P (.sc (.func (.func f) first #[])) vs K :=
  ⟨f, [], us, r, .inr ⟨first, rfl, hle⟩, hb, hs, trivial, hd, hK⟩
def dK (P : Program) (o : Oper) (e : Operand → V) (H : Heap) (K : V → Heap → Prop) : Prop := match o.op with
  | .call { callee := .value x, args, argTypes } => CallD P (e x) (args.toList.map e) fun r => K r H
  | .call { callee := .builtin .copy, args, argTypes } => match args.toList, argTypes.toList with
    | [a, b], [t, t'] => cpD P H t t' (e a) (e b) K
    | _, _ => False
  | .buildSlice t n parts => match slv P t with
    | some (te, sz, _) => 0 < sz ∧ n * sz ≤ 16777216 ∧ zok P te sz ∧ (parts.toList.map (·.1)) = List.range n ∧ V.dataL (parts.toList.map fun p => e p.2) = true ∧ Storable (parts.toList.map fun p => e p.2) ∧ Stride sz (parts.toList.map fun p => e p.2) ∧
        K (.sl true (parts.toList.map fun p => e p.2)) H
    | none => False
  | .store t a x => match tyv P t with
    | some (_, n) => match e a with
      | .ptr id i fo => match look H id with
        | some ob => i < ob.len ∧ fo + n ≤ (ob.elem i).cells.length ∧ 0 < n ∧ (e x).cells.length = n ∧ (e x).okCells = true ∧ (isVar ob = true ∨ (e x).data = true) ∧
            K .any (upd H id (ob.wr i fo (e x).cells))
        | none => False
      | _ => False
    | none => False
  | .alloc t => match o.dst, zv P t with
    | some d, some z => look H d = none ∧ z.okCells = true ∧ K (.ptr d 0 0) ((d, .var t z) :: H)
    | _, _ => False
  | .box t x => match o.dst with
    | some d => look H d = none ∧ (e x).okCells = true ∧ K (.ptr d 0 0) ((d, .var t (e x)) :: H)
    | none => False
  | op => valK P op e H fun v => K v H
def evalD (P : Program) (ops : Array Oper) : List Oper → St → (St → Prop) → Prop
  | [], s, K => K s
  | o :: rest, s, K => match o.guard with
    | none => dK P o (ev s.slots) s.heap fun v H' => evalD P ops rest ((⟨s.slots, H'⟩ : St).put o.dst v) K
    | some (j, want) => match (ops[j]?).bind (·.dst) with
      | some d => match s.slots.getD d .any with
        | .sc (.bool b) => (b = want → dK P o (ev (s.slots.set d (.sc (.bool want)))) s.heap fun v H' => evalD P ops rest ((⟨s.slots.set d (.sc (.bool want)), H'⟩ : St).put o.dst v) K) ∧
            (b = (!want) → evalD P ops rest ((⟨s.slots.set d (.sc (.bool (!want))), s.heap⟩ : St).put o.dst (.sc undef)) K)
        | .sc (.tuple _) => evalD P ops rest (s.put o.dst (.sc undef)) K
        | _ => False
      | none => False
theorem cmpK_point {op : BinOp} {a b : Int} {K : V → Prop} (h : cmpK op a b K) : ∃ v, cmpK op a b (fun u => u = v) ∧ K v := by
  cases op <;> simp only [cmpK] at h ⊢ <;> first | exact h.elim | exact ⟨_, rfl, h⟩
theorem intK_point {op : BinOp} {k k' : IntKind} {a b : Int} {K : V → Prop} (h : intK op k k' a b K) : ∃ v, intK op k k' a b (fun u => u = v) ∧ K v := by
  cases op <;> simp only [intK] at h ⊢ <;> first
    | exact ⟨_, ⟨h.1, rfl⟩, h.2⟩
    | exact ⟨_, ⟨h.1, h.2.1, rfl⟩, h.2.2⟩
    | (obtain ⟨v, h1, h2⟩ := cmpK_point h.2; exact ⟨v, ⟨h.1, h1⟩, h2⟩)
theorem strK_point {op : BinOp} {a b : ByteArray} {K : V → Prop} (h : strK op a b K) : ∃ v, strK op a b (fun u => u = v) ∧ K v := by
  cases op <;> simp only [strK] at h ⊢ <;> first | exact h.elim | exact ⟨_, rfl, h⟩ | exact ⟨_, ⟨h.1, rfl⟩, h.2⟩
theorem binK_point {P : Program} {op : BinOp} {t : TypeId} {x y : V} {K : V → Prop} (h : binK P op t x y K) : ∃ v, binK P op t x y (fun u => u = v) ∧ K v := by
  unfold binK at h ⊢
  revert h
  (repeat' split) <;> intro h <;> first
    | exact h.elim
    | exact intK_point h
    | exact strK_point h
    | exact ⟨_, rfl, h⟩
    | exact ⟨_, ⟨h.1, rfl⟩, h.2⟩
    | exact ⟨_, ⟨h.1, h.2.1, rfl⟩, h.2.2⟩
theorem unK_point {op : UnOp} {x : V} {K : V → Prop} (h : unK op x K) : ∃ v, unK op x (fun u => u = v) ∧ K v := by
  unfold unK at h ⊢
  revert h
  (repeat' split) <;> intro h <;> first | exact h.elim | exact ⟨_, rfl, h⟩
theorem convK_point {P : Program} {src dst : TypeId} {x : V} {K : V → Prop} (h : convK P src dst x K) : ∃ v, convK P src dst x (fun u => u = v) ∧ K v := by
  unfold convK at h ⊢
  revert h
  (repeat' split) <;> intro h <;> first | exact h.elim | exact ⟨_, rfl, h⟩ | (obtain ⟨te, ns, h1, h2, h3, h4, h5⟩ := h; exact ⟨_, ⟨te, ns, h1, h2, h3, h4, rfl⟩, h5⟩)
theorem valK_point {P : Program} {op : Op} {e : Operand → V} {H : Heap} {K : V → Prop} (h : valK P op e H K) : ∃ v, valK P op e H (fun u => u = v) ∧ K v := by
  cases op with
  | binOp op t x y ty => simp only [valK] at h ⊢; exact binK_point h
  | unOp op t x => simp only [valK] at h ⊢; exact unK_point h
  | convert s d x => simp only [valK] at h ⊢; exact convK_point h
  | call c =>
    obtain ⟨callee, args, argTypes⟩ := c
    cases callee with
    | builtin b =>
      cases b <;> simp only [valK] at h ⊢ <;> revert h <;> (repeat' split) <;> intro h <;> first
        | exact h.elim
        | exact ⟨_, rfl, h⟩
        | exact ⟨_, ⟨h.1, rfl⟩, h.2⟩
    | value f => simp only [valK] at h
    | invoke r m => simp only [valK] at h
  | makeFunc fn first caps =>
    cases fn <;> simp only [valK] at h ⊢ <;> first | exact h.elim | (rcases h with h | ⟨h1, zs, h2, h3⟩; exact ⟨_, .inl ⟨h.1, rfl⟩, h.2⟩; exact ⟨_, .inr ⟨h1, zs, h2, rfl⟩, h3⟩)
  | index t x i =>
    simp only [valK] at h ⊢
    revert h
    (repeat' split) <;> intro h <;> first
      | exact h.elim
      | exact ⟨_, ⟨h.1, h.2.1, h.2.2.1, rfl⟩, h.2.2.2⟩
      | (obtain ⟨h1, h2, h3⟩ := h; exact ⟨_, ⟨h1, h2, rfl⟩, h3⟩)
  | _ => first
    | (simp only [valK] at h; done)
    | simp only [valK] at h ⊢
      revert h
      (repeat' split) <;> intro h <;> first
      | exact h.elim
      | exact h.2.elim
      | exact ⟨_, rfl, h⟩
      | exact ⟨_, ⟨h.1, rfl⟩, h.2⟩
      | exact ⟨_, ⟨h.1, h.2.1, rfl⟩, h.2.2⟩
      | exact ⟨_, ⟨h.1, h.2.1, h.2.2.1, rfl⟩, h.2.2.2⟩
      | exact ⟨_, ⟨h.1, h.2.1, h.2.2.1, h.2.2.2.1, rfl⟩, h.2.2.2.2⟩
      | exact ⟨_, ⟨h.1, h.2.1, h.2.2.1, h.2.2.2.1, h.2.2.2.2.1, rfl⟩, h.2.2.2.2.2⟩
theorem dK_point {P : Program} {o : Oper} {e : Operand → V} {H : Heap} {K : V → Heap → Prop} (h : dK P o e H K) : ∃ v H', dK P o e H (fun u G => u = v ∧ G = H') ∧ K v H' := by
  unfold dK at h ⊢
  revert h
  split
  · rintro ⟨f, caps, us, r, h1, h2, h3, h4, h5, h6⟩
    exact ⟨r, H, ⟨f, caps, us, r, h1, h2, h3, h4, h5, rfl, rfl⟩, h6⟩
  · split
    · rintro ⟨te, te', sz, by_, id, off, len, cap, es, ns, n, h1, h2, h3, h4, h5, h6, h7, h8⟩
      exact ⟨_, _, ⟨te, te', sz, by_, id, off, len, cap, es, ns, n, h1, h2, h3, h4, h5, h6, h7, rfl, rfl⟩, h8⟩
    · exact fun h => h.elim
  · split
    · rintro ⟨h1, h2, h3, h4, h5, h6, h7, h8⟩
      exact ⟨_, _, ⟨h1, h2, h3, h4, h5, h6, h7, rfl, rfl⟩, h8⟩
    · exact fun h => h.elim
  · split
    · split
      · split
        · rintro ⟨h1, h2, h3, h4, h5, h6, h7⟩
          exact ⟨_, _, ⟨h1, h2, h3, h4, h5, h6, rfl, rfl⟩, h7⟩
        · exact fun h => h.elim
      · exact fun h => h.elim
    · exact fun h => h.elim
  · split
    · rintro ⟨h1, h2, h3⟩
      exact ⟨_, _, ⟨h1, h2, rfl, rfl⟩, h3⟩
    · exact fun h => h.elim
  · split
    · rintro ⟨h1, h2, h3⟩
      exact ⟨_, _, ⟨h1, h2, rfl, rfl⟩, h3⟩
    · exact fun h => h.elim
  · intro h
    obtain ⟨v, h1, h2⟩ := valK_point h
    refine ⟨v, H, ?_, h2⟩
    have : (fun u => u = v ∧ H = H) = (fun u => u = v) := by funext u; simp
    rw [this]; exact h1
end Go.AM
namespace Go.AM
open V (Le LeL)
theorem opt_map_congr {e e' : Operand → V} {o : Option Operand} (h : ∀ x ∈ o.toArray, e x = e' x) : o.map e = o.map e' := by
  cases o with
  | none => rfl
  | some x => simp [h x (by simp)]
theorem list_map_congr {e e' : Operand → V} {l : Array Operand} (h : ∀ x ∈ l, e x = e' x) : l.toList.map e = l.toList.map e' :=
  List.map_congr_left fun x hx => h x (by simpa using hx)
theorem valK_congr {P : Program} {op : Op} {e e' : Operand → V} {H : Heap} {K : V → Prop} (h : ∀ x ∈ op.operands, e x = e' x) (hv : valK P op e H K) : valK P op e' H K := by
  cases op with
  | call c =>
    obtain ⟨callee, args, argTypes⟩ := c
    have ha : args.toList.map e = args.toList.map e' := list_map_congr fun x hx => h x (by simp [Op.operands, Call.operands, hx])
    have hm : ∀ x ∈ args.toList, e x = e' x := fun x hx => h x (by simp [Op.operands, Call.operands]; right; simpa using hx)
    cases callee with
    | builtin b =>
      cases b <;> simp only [valK] at hv ⊢ <;> first
        | exact hv
        | (revert hv
           split
           · rename_i x t hx ht
             rw [hm x (by rw [hx]; simp)]
             exact id
           · exact id)
        | (revert hv
           split
           · rename_i x y hx
             rw [hm x (by rw [hx]; simp), hm y (by rw [hx]; simp)]
             exact id
           · exact id)
    | value f => simp only [valK] at hv
    | invoke r m => simp only [valK] at hv
  | makeFunc fn first caps =>
    have hc : caps.toList.map e = caps.toList.map e' := list_map_congr fun x hx => h x (by simp [Op.operands, hx])
    have hf : first.toList.map e = first.toList.map e' := list_map_congr fun x hx => h x (by simp [Op.operands, hx])
    cases fn <;> simp only [valK] at hv ⊢ <;> first | exact hv | (rw [← hc, ← hf]; exact hv)
  | build t parts =>
    have hp : ∀ p ∈ parts.toList, e p.2 = e' p.2 := fun p hp => h p.2 (by simp only [Op.operands, List.mem_toArray]; exact List.mem_map.2 ⟨p, hp, rfl⟩)
    simp only [valK] at hv ⊢
    have e1 : (parts.toList.map fun p => (p.1, e p.2)) = parts.toList.map fun p => (p.1, e' p.2) := List.map_congr_left fun p hpp => by rw [hp p hpp]
    have e2 : (parts.toList.all fun p => (e p.2).okCells) = parts.toList.all fun p => (e' p.2).okCells := by
      rw [Bool.eq_iff_iff, List.all_eq_true, List.all_eq_true]
      exact ⟨fun q p hpp => by rw [← hp p hpp]; exact q p hpp, fun q p hpp => by rw [hp p hpp]; exact q p hpp⟩
    rw [← e1, ← e2]; exact hv
  | slice t x lo hi mx =>
    have h1 := h x (by simp [Op.operands])
    have h2 : lo.map e = lo.map e' := opt_map_congr fun y hy => h y (by simp only [Op.operands, Array.mem_append]; exact .inl (.inl (.inr hy)))
    have h3 : hi.map e = hi.map e' := opt_map_congr fun y hy => h y (by simp only [Op.operands, Array.mem_append]; exact .inl (.inr hy))
    have h4 : mx.map e = mx.map e' := opt_map_congr fun y hy => h y (by simp only [Op.operands, Array.mem_append]; exact .inr hy)
    simp only [valK] at hv ⊢
    rw [← h1, ← h2, ← h3, ← h4]; exact hv
  | pick c a b =>
    have h1 := h c (by simp [Op.operands]); have h2 := h a (by simp [Op.operands]); have h3 := h b (by simp [Op.operands])
    simp only [valK] at hv ⊢; rw [← h1, ← h2, ← h3]; exact hv
  | move x | assign x | nilCheck x | load _ x | unOp _ _ x | convert _ _ x | fieldAddr _ x _ | field _ x _ | extract x _ =>
    have h1 := h x (by simp [Op.operands])
    simp only [valK] at hv ⊢; rw [← h1]; exact hv
  | binOp _ _ x y _ | indexAddr _ x y | index _ x y | lookup _ x y _ =>
    have h1 := h x (by simp [Op.operands]); have h2 := h y (by simp [Op.operands])
    simp only [valK] at hv ⊢; rw [← h1, ← h2]; exact hv
  | _ => simp only [valK] at hv
theorem dK_congr {P : Program} {o : Oper} {e e' : Operand → V} {H : Heap} {K : V → Heap → Prop} (h : ∀ x ∈ o.op.operands, e x = e' x) (hv : dK P o e H K) : dK P o e' H K := by
  unfold dK at hv ⊢
  revert hv h
  cases o.op with
  | call c =>
    obtain ⟨callee, args, argTypes⟩ := c
    cases callee with
    | value x =>
      intro h hv
      have hx := h x (by simp [Op.operands, Call.operands])
      have ha : args.toList.map e = args.toList.map e' := list_map_congr fun y hy => h y (by simp [Op.operands, Call.operands, hy])
      simp only at hv ⊢
      rw [← hx, ← ha]; exact hv
    | builtin b =>
      intro h hv
      cases b with
      | copy =>
        simp only at hv ⊢
        split at hv
        · rename_i a b t t' ha ht
          have h1 := h a (by simp only [Op.operands, Call.operands]; first | (rw [← Array.mem_toList_iff, ha]; simp; done) | (simp; rw [← Array.mem_toList_iff, ha]; simp))
          have h2 := h b (by simp only [Op.operands, Call.operands]; first | (rw [← Array.mem_toList_iff, ha]; simp; done) | (simp; rw [← Array.mem_toList_iff, ha]; simp))
          rw [← h1, ← h2]; exact hv
        · exact hv.elim
      | _ => exact valK_congr h hv
    | invoke r m => intro h hv; exact valK_congr h hv
  | buildSlice t n parts =>
    intro h hv
    have hp : ∀ p ∈ parts.toList, e p.2 = e' p.2 := fun p hp => h p.2 (by simp only [Op.operands, List.mem_toArray]; exact List.mem_map.2 ⟨p, hp, rfl⟩)
    have e1 : (parts.toList.map fun p => e p.2) = parts.toList.map fun p => e' p.2 := List.map_congr_left fun p hpp => hp p hpp
    simp only at hv ⊢
    rw [← e1]; exact hv
  | store t a x =>
    intro h hv
    have h1 := h a (by simp [Op.operands]); have h2 := h x (by simp [Op.operands])
    simp only at hv ⊢
    rw [← h1, ← h2]; exact hv
  | alloc t => intro h hv; exact hv
  | box t x =>
    intro h hv
    have h1 := h x (by simp [Op.operands])
    simp only at hv ⊢
    rw [← h1]; exact hv
  | _ => intro h hv; exact valK_congr h hv
def pureB : Op → Bool
  | .move _ | .assign _ | .pick .. | .nilCheck _ | .binOp .. | .unOp .. | .convert .. | .fieldAddr .. | .field .. | .index .. | .extract .. | .build .. | .buildSlice .. | .makeFunc .. => true
  | .call { callee := .value _, .. } | .call { callee := .builtin .max, .. } | .call { callee := .builtin .min, .. } => true
  | _ => false
def writesB : Op → Bool
  | .store .. => true
  | .alloc _ => true
  | .box .. => true
  | .call { callee := .builtin .copy, .. } => true
  | _ => false
theorem dK_keeps {P : Program} {o : Oper} {e : Operand → V} {H H' : Heap} {v : V} (hw : writesB o.op = false) (h : dK P o e H (fun u G => u = v ∧ G = H')) : H' = H := by
  unfold dK at h
  revert h hw
  cases o.op with
  | call c =>
    obtain ⟨callee, args, argTypes⟩ := c
    cases callee with
    | value x => rintro - ⟨f, caps, us, r, _, _, _, _, _, _, h⟩; exact h.symm
    | builtin b =>
      cases b with
      | copy => intro h; simp [writesB] at h
      | _ => intro _ hv; obtain ⟨u, _, h⟩ := valK_point hv; exact h.2.symm
    | invoke r m => intro _ hv; obtain ⟨u, _, h⟩ := valK_point hv; exact h.2.symm
  | buildSlice t n parts =>
    intro _ hv
    simp only at hv
    split at hv
    · exact hv.2.2.2.2.2.2.2.2.symm
    · exact hv.elim
  | store t a x => intro h; simp [writesB] at h
  | alloc t => intro h; simp [writesB] at h
  | box t x => intro h; simp [writesB] at h
  | _ => intro _ hv; obtain ⟨u, _, h⟩ := valK_point hv; exact h.2.symm
def newB : Op → Bool
  | .alloc _ => true
  | .box .. => true
  | _ => false
theorem valK_more {P : Program} {op : Op} {e : Operand → V} {H H' : Heap} {K : V → Prop} (hm : ∀ id ob, look H id = some ob → look H' id = some ob) (h : valK P op e H K) : valK P op e H' K := by
  have mv : ∀ v x, mview H v = some x → mview H' v = some x := by
    intro v x hx
    unfold mview at hx ⊢
    split at hx
    · exact hx
    · rename_i id
      cases hl : look H id with
      | none => rw [hl] at hx; cases hx
      | some ob => rw [hm _ _ hl]; rw [hl] at hx; exact hx
    · exact hx
    · cases hx
  cases op with
  | load t x =>
    simp only [valK] at h ⊢
    split at h
    · split at h
      · exact h
      · (split at h <;> first | exact h.elim | (rename_i heq; rw [hm _ _ heq]; exact h))
      · exact h.elim
    · exact h.elim
  | indexAddr t x i =>
    simp only [valK] at h ⊢
    split at h
    · split at h
      · exact h
      · (split at h <;> first | exact h.elim | (rename_i heq; rw [hm _ _ heq]; exact h))
      · (split at h <;> first | exact h.elim | (rename_i heq; rw [hm _ _ heq]; exact h))
      · exact h
      · exact h.elim
    · exact h
  | lookup t x ix ok =>
    simp only [valK] at h ⊢
    split at h
    · split at h
      · rename_i h1 h2 h3; rw [h1, mv _ _ h2, h3]; exact h
      · exact h.elim
    · exact h.elim
  | slice t x lw hi mx =>
    simp only [valK] at h ⊢
    split at h
    · split at h
      · exact h
      · (split at h <;> first | exact h.elim | (rename_i heq; rw [hm _ _ heq]; exact h))
      · (split at h <;> first | exact h.elim | (rename_i heq; rw [hm _ _ heq]; exact h))
      · exact h.elim
    · exact h
  | call c =>
    obtain ⟨callee, args, argTypes⟩ := c
    cases callee with
    | builtin b =>
      cases b with
      | len =>
        simp only [valK] at h ⊢
        split at h
        · split at h
          · exact h
          · (split at h <;> first | exact h.elim | (rename_i heq; rw [hm _ _ heq]; exact h))
          · exact h
          · exact h
          · exact h
          · exact h.elim
        · exact h.elim
      | _ => first | (simp only [valK] at h; done) | (simp only [valK] at h ⊢; exact h)
    | value f => simp only [valK] at h
    | invoke r m => simp only [valK] at h
  | makeFunc fn first caps => cases fn <;> first | (simp only [valK] at h; done) | (simp only [valK] at h ⊢; exact h)
  | _ => first | (simp only [valK] at h; done) | (simp only [valK] at h ⊢; exact h)
theorem dK_pure {P : Program} {o : Oper} {e : Operand → V} {H G : Heap} {v : V} (hp : pureB o.op = true) (h : dK P o e H (fun u F => u = v ∧ F = H)) : dK P o e G (fun u F => u = v ∧ F = G) := by
  have hv1 : ∀ (op : Op), valK P op e H (fun u => u = v ∧ H = H) → (∀ K, valK P op e H K → valK P op e G K) → valK P op e G (fun u => u = v ∧ G = G) := by
    intro op h1 h2
    have := h2 _ h1
    simpa using this
  unfold dK at h ⊢
  revert h hp
  cases o.op with
  | call c =>
    obtain ⟨callee, args, argTypes⟩ := c
    cases callee with
    | value x => rintro - ⟨f, caps, us, r, h1, h2, h3, h4, h5, h6, _⟩; exact ⟨f, caps, us, r, h1, h2, h3, h4, h5, h6, rfl⟩
    | builtin b => cases b <;> intro hp hv <;> first | (simp [pureB] at hp; done) | (refine hv1 _ hv ?_; intro K hK; simpa only [valK] using hK)
    | invoke r m => intro hp; simp [pureB] at hp
  | buildSlice t n parts =>
    intro _ hv
    simp only at hv ⊢
    split at hv
    · exact ⟨hv.1, hv.2.1, hv.2.2.1, hv.2.2.2.1, hv.2.2.2.2.1, hv.2.2.2.2.2.1, hv.2.2.2.2.2.2.1, hv.2.2.2.2.2.2.2.1, by trivial⟩
    · exact hv
  | makeFunc fn first caps => intro hp hv; refine hv1 _ hv ?_; intro K hK; cases fn <;> simp only [valK] at hK ⊢ <;> exact hK
  | _ => intro hp hv; first | (simp [pureB] at hp; done) | (refine hv1 _ hv ?_; intro K hK; simpa only [valK] using hK)
def Yv (P : Program) (ops : Array Oper) (o : Oper) (s : St) (v : V) (H' : Heap) : Prop := match o.guard with
  | none => dK P o (ev s.slots) s.heap (fun u G => u = v ∧ G = H')
  | some (j, want) => (∃ d b, (ops[j]?).bind (·.dst) = some d ∧ s.slots.getD d .any = .sc (.bool b) ∧ (if b = want then dK P o (ev s.slots) s.heap (fun u G => u = v ∧ G = H') else v = .sc undef ∧ H' = s.heap)) ∨
      ∃ d arr, (ops[j]?).bind (·.dst) = some d ∧ s.slots.getD d .any = .sc (.tuple arr) ∧ v = .sc undef ∧ H' = s.heap
def after (o : Oper) (s : St) (v : V) (H' : Heap) : St := (⟨s.slots, H'⟩ : St).put o.dst v
def chain (P : Program) (ops : Array Oper) : List Oper → St → (St → Prop) → Prop
  | [], s, K => K s
  | o :: rest, s, K => ∃ v H', Yv P ops o s v H' ∧ chain P ops rest (after o s v H') K
theorem set_same {l : List V} {d : Nat} {x : V} (h : l.getD d .any = x) (hd : d < l.length) : l.set d x = l := by
  apply List.ext_getElem?
  intro i
  rw [List.getElem?_set]
  by_cases hi : d = i
  · subst hi
    rw [if_pos rfl, if_pos hd]
    rw [List.getD_eq_getElem?_getD, List.getElem?_eq_getElem hd] at h
    rw [List.getElem?_eq_getElem hd, ← h]; rfl
  · rw [if_neg hi]
theorem chain_of_evalD {P : Program} {ops : Array Oper} : ∀ {l : List Oper} {s : St} {K : St → Prop}, evalD P ops l s K → chain P ops l s K
  | [], s, K, h => h
  | o :: rest, s, K, h => by
    unfold evalD at h
    unfold chain
    split at h
    · rename_i hg
      obtain ⟨v, H', h1, h2⟩ := dK_point h
      exact ⟨v, H', by unfold Yv; rw [hg]; exact h1, chain_of_evalD h2⟩
    · rename_i j want hg
      split at h
      · rename_i d hd
        split at h
        · rename_i b hb
          have hlt : d < s.slots.length := by
            rcases Nat.lt_or_ge d s.slots.length with h' | h'
            · exact h'
            · rw [List.getD_eq_getElem?_getD, List.getElem?_eq_none h'] at hb; cases hb
          have hset := set_same hb hlt
          by_cases hw : b = want
          · subst hw
            have h1 := h.1 rfl
            rw [hset] at h1
            obtain ⟨v, H', h1, h2⟩ := dK_point h1
            exact ⟨v, H', by unfold Yv; rw [hg]; exact .inl ⟨d, b, hd, hb, by rw [if_pos rfl]; exact h1⟩, chain_of_evalD h2⟩
          · have hw' : b = (!want) := by cases b <;> cases want <;> simp_all
            have h1 := h.2 hw'
            rw [← hw', hset] at h1
            exact ⟨.sc undef, s.heap, by unfold Yv; rw [hg]; exact .inl ⟨d, b, hd, hb, by rw [if_neg hw]; exact ⟨rfl, rfl⟩⟩, chain_of_evalD h1⟩
        · rename_i arr hb
          exact ⟨.sc undef, s.heap, by unfold Yv; rw [hg]; exact .inr ⟨d, arr, hd, hb, rfl, rfl⟩, chain_of_evalD h⟩
        · exact h.elim
      · exact h.elim
def commB (x y : Op) : Bool := pureB x || pureB y || (!writesB x && !writesB y) || (!writesB x && newB y)
theorem ev_put {slots : List V} {d : Option Tmp} {u : V} {x : Operand} (h : ∀ t, d = some t → x ≠ .tmp t) (H : Heap) : ev ((⟨slots, H⟩ : St).put d u).slots x = ev slots x := by
  cases d with
  | none => rfl
  | some t =>
    cases x with
    | tmp t' =>
      have : t ≠ t' := fun e => h t rfl (by rw [e])
      exact getD_set_ne' this _ _
    | _ => rfl
theorem Yv_slots {P : Program} {ops : Array Oper} {o : Oper} {slots : List V} {H H' : Heap} {v u : V} {d : Option Tmp} (h : ∀ t, d = some t → t ∉ o.looksAt ops) (hs : List V) (hh : hs = ((⟨slots, H⟩ : St).put d u).slots) :
    Yv P ops o ⟨slots, H⟩ v H' ↔ Yv P ops o ⟨hs, H⟩ v H' := by
  subst hh
  have hop : ∀ x ∈ o.op.operands, ev ((⟨slots, H⟩ : St).put d u).slots x = ev slots x := fun x hx => ev_put (fun t ht e => h t ht (by
    simp only [Oper.looksAt, List.mem_append, List.mem_filterMap]
    exact .inl ⟨x, by simpa using hx, by rw [e]⟩)) H
  have hg : ∀ g want dd, o.guard = some (g, want) → (ops[g]?).bind (·.dst) = some dd → ((⟨slots, H⟩ : St).put d u).slots.getD dd .any = slots.getD dd .any := fun g want dd hgd hdd => by
    have := ev_put (slots := slots) (d := d) (u := u) (x := .tmp dd) (fun t ht e => h t ht (by
      simp only [Oper.looksAt, List.mem_append]
      right
      rw [hgd]
      simp only [hdd]
      cases e; simp)) H
    exact this
  unfold Yv
  cases hgd : o.guard with
  | none => exact ⟨fun q => dK_congr (fun x hx => (hop x hx).symm) q, fun q => dK_congr hop q⟩
  | some p =>
    obtain ⟨g, want⟩ := p
    constructor
    · rintro (⟨dd, b, h1, h2, h3⟩ | ⟨dd, arr, h1, h2, h3⟩)
      · refine .inl ⟨dd, b, h1, (hg g want dd hgd h1).trans h2, ?_⟩
        by_cases hb : b = want
        · rw [if_pos hb] at h3 ⊢; exact dK_congr (fun x hx => (hop x hx).symm) h3
        · rw [if_neg hb] at h3 ⊢; exact h3
      · exact .inr ⟨dd, arr, h1, (hg g want dd hgd h1).trans h2, h3⟩
    · rintro (⟨dd, b, h1, h2, h3⟩ | ⟨dd, arr, h1, h2, h3⟩)
      · refine .inl ⟨dd, b, h1, (hg g want dd hgd h1).symm.trans h2, ?_⟩
        by_cases hb : b = want
        · rw [if_pos hb] at h3 ⊢; exact dK_congr hop h3
        · rw [if_neg hb] at h3 ⊢; exact h3
      · exact .inr ⟨dd, arr, h1, (hg g want dd hgd h1).symm.trans h2, h3⟩
theorem Yv_keeps {P : Program} {ops : Array Oper} {o : Oper} {s : St} {v : V} {H' : Heap} (hw : writesB o.op = false) (h : Yv P ops o s v H') : H' = s.heap := by
  unfold Yv at h
  split at h
  · exact dK_keeps hw h
  · obtain ⟨d, b, _, _, h3⟩ | ⟨d, arr, _, _, _, h3⟩ := h
    · split at h3
      · exact dK_keeps hw h3
      · exact h3.2
    · exact h3
theorem Yv_pure {P : Program} {ops : Array Oper} {o : Oper} {slots : List V} {H G : Heap} {v : V} (hp : pureB o.op = true) (h : Yv P ops o ⟨slots, H⟩ v H) : Yv P ops o ⟨slots, G⟩ v G := by
  unfold Yv at h ⊢
  split at h
  · exact dK_pure hp h
  · obtain ⟨d, b, h1, h2, h3⟩ | ⟨d, arr, h1, h2, h3, _⟩ := h
    · refine .inl ⟨d, b, h1, h2, ?_⟩
      split at h3
      · rename_i hb; rw [if_pos hb]; exact dK_pure hp h3
      · rename_i hb; rw [if_neg hb]; exact ⟨h3.1, rfl⟩
    · exact .inr ⟨d, arr, h1, h2, h3, rfl⟩
theorem pure_keeps {op : Op} (h : pureB op = true) : writesB op = false := by
  cases op with
  | call c =>
    obtain ⟨callee, args, argTypes⟩ := c
    cases callee with
    | builtin b => cases b <;> first | rfl | (simp [pureB] at h; done)
    | _ => rfl
  | store t a x => simp [pureB] at h
  | _ => first | rfl | (simp [pureB] at h; done)
theorem put_put {slots : List V} {H : Heap} {x y : Option Tmp} {v u : V} (h : ∀ d, x = some d → y ≠ some d) : ((⟨slots, H⟩ : St).put x v).put y u = ((⟨slots, H⟩ : St).put y u).put x v := by
  cases x with
  | none => rfl
  | some d =>
    cases y with
    | none => rfl
    | some d' =>
      have : d ≠ d' := fun e => h d rfl (by rw [e])
      simp only [St.put]
      rw [List.set_comm _ _ this]
theorem st_eta (slots : List V) (H G : Heap) (x : Option Tmp) (v : V) : (⟨((⟨slots, H⟩ : St).put x v).slots, G⟩ : St) = (⟨slots, G⟩ : St).put x v := by cases x <;> rfl
theorem newB_dK {P : Program} {o : Oper} {e : Operand → V} {H H' : Heap} {v : V} (hn : newB o.op = true) (h : dK P o e H (fun u G => u = v ∧ G = H')) : ∃ d ob, look H d = none ∧ H' = (d, ob) :: H := by
  unfold dK at h
  revert h hn
  cases o.op with
  | alloc t =>
    intro _ h
    simp only at h
    split at h
    · exact ⟨_, _, h.1, h.2.2.2.symm⟩
    · exact h.elim
  | box t x =>
    intro _ h
    simp only at h
    split at h
    · exact ⟨_, _, h.1, h.2.2.2.symm⟩
    · exact h.elim
  | _ => intro hn; simp [newB] at hn
theorem dK_more {P : Program} {o : Oper} {e : Operand → V} {H H' : Heap} {v : V} (hm : ∀ id ob, look H id = some ob → look H' id = some ob) (hw : writesB o.op = false) (h : dK P o e H (fun u G => u = v ∧ G = H)) : dK P o e H' (fun u G => u = v ∧ G = H') := by
  have via : valK P o.op e H (fun u => u = v ∧ H = H) → valK P o.op e H' (fun u => u = v ∧ H' = H') := fun q => by
    have := valK_more hm q
    simpa using this
  unfold dK at h ⊢
  revert via h hw
  cases o.op with
  | call c =>
    obtain ⟨callee, args, argTypes⟩ := c
    cases callee with
    | value x => rintro - ⟨f, caps, us, r, h1, h2, h3, h4, h5, h6, _⟩ -; exact ⟨f, caps, us, r, h1, h2, h3, h4, h5, h6, rfl⟩
    | builtin b =>
      cases b with
      | copy => intro hw; simp [writesB] at hw
      | _ => intro _ h via; exact via h
    | invoke r m => intro _ h via; exact via h
  | buildSlice t n parts =>
    intro _ hv _
    simp only at hv ⊢
    split at hv
    · exact ⟨hv.1, hv.2.1, hv.2.2.1, hv.2.2.2.1, hv.2.2.2.2.1, hv.2.2.2.2.2.1, hv.2.2.2.2.2.2.1, hv.2.2.2.2.2.2.2.1, by trivial⟩
    · exact hv
  | store t a x => intro hw; simp [writesB] at hw
  | alloc t => intro hw; simp [writesB] at hw
  | box t x => intro hw; simp [writesB] at hw
  | _ => intro _ h via; exact via h
theorem Yv_more {P : Program} {ops : Array Oper} {o : Oper} {slots : List V} {H G : Heap} {v : V} (hm : ∀ id ob, look H id = some ob → look G id = some ob) (hw : writesB o.op = false) (h : Yv P ops o ⟨slots, H⟩ v H) : Yv P ops o ⟨slots, G⟩ v G := by
  unfold Yv at h ⊢
  split at h
  · exact dK_more hm hw h
  · obtain ⟨d, b, h1, h2, h3⟩ | ⟨d, arr, h1, h2, h3, _⟩ := h
    · refine .inl ⟨d, b, h1, h2, ?_⟩
      split at h3
      · rename_i hb; rw [if_pos hb]; exact dK_more hm hw h3
      · rename_i hb; rw [if_neg hb]; exact ⟨h3.1, rfl⟩
    · exact .inr ⟨d, arr, h1, h2, h3, rfl⟩
theorem Yv_new {P : Program} {ops : Array Oper} {o : Oper} {s : St} {v : V} {H' : Heap} (hn : newB o.op = true) (h : Yv P ops o s v H') : ∀ id ob, look s.heap id = some ob → look H' id = some ob := by
  have key : ∀ G, (∃ d ob, look s.heap d = none ∧ G = (d, ob) :: s.heap) → ∀ id ob, look s.heap id = some ob → look G id = some ob := by
    rintro G ⟨d, ob', h1, rfl⟩ id ob h2
    rw [look]
    rw [if_neg]
    · exact h2
    · rintro rfl; rw [h1] at h2; cases h2
  unfold Yv at h
  split at h
  · exact key _ (newB_dK hn h)
  · obtain ⟨d, b, _, _, h3⟩ | ⟨d, arr, _, _, _, h3⟩ := h
    · split at h3
      · exact key _ (newB_dK hn h3)
      · rw [h3.2]; exact fun _ _ q => q
    · rw [h3]; exact fun _ _ q => q
theorem chain_swap {P : Program} {ops : Array Oper} {x y : Oper} {rest : List Oper} {s : St} {K : St → Prop} (hap : x.apart ops y = true) (hc : commB x.op y.op = true) (h : chain P ops (x :: y :: rest) s K) : chain P ops (y :: x :: rest) s K := by
  obtain ⟨v, H1, h1, u, H2, h2, h3⟩ := h
  obtain ⟨slots, H⟩ := s
  obtain ⟨a1, a2, a3⟩ := Oper.apart_spec hap
  have fin : ∀ G, Yv P ops y ⟨slots, H⟩ u G → Yv P ops x (after y ⟨slots, H⟩ u G) v H2 → chain P ops (y :: x :: rest) ⟨slots, H⟩ K := by
    intro G k1 k2
    refine ⟨u, G, k1, v, H2, k2, ?_⟩
    have e : after x (after y ⟨slots, H⟩ u G) v H2 = after y (after x ⟨slots, H⟩ v H1) u H2 := by
      simp only [after, st_eta]
      exact (put_put a2).symm
    rw [e]; exact h3
  -- y's value, as seen before x
  have hy : Yv P ops y ⟨slots, H1⟩ u H2 := (Yv_slots (slots := slots) (H := H1) (u := v) a1 _ rfl).2 (by
    have : (⟨((⟨slots, H1⟩ : St).put x.dst v).slots, H1⟩ : St) = after x ⟨slots, H⟩ v H1 := by simp only [after]; cases x.dst <;> rfl
    rw [this]; exact h2)
  have seen : ∀ (G F : Heap), Yv P ops x ⟨slots, G⟩ v F → Yv P ops x (after y ⟨slots, H⟩ u G) v F := fun G F hx => by
    have := (Yv_slots (slots := slots) (H := G) (u := u) (d := y.dst) a3 _ rfl).1 hx
    have e : (⟨((⟨slots, G⟩ : St).put y.dst u).slots, G⟩ : St) = after y ⟨slots, H⟩ u G := by simp only [after]; cases y.dst <;> rfl
    rwa [e] at this
  simp only [commB, Bool.or_eq_true, Bool.and_eq_true, Bool.not_eq_true'] at hc
  rcases hc with ((hc | hc) | ⟨hc1, hc2⟩) | ⟨hc1, hc2⟩
  · have e1 : H1 = H := Yv_keeps (pure_keeps hc) h1
    subst e1
    exact fin H2 hy (seen H2 H2 (Yv_pure hc h1))
  · have e2 : H2 = H1 := Yv_keeps (pure_keeps hc) hy
    subst e2
    exact fin H (Yv_pure hc hy) (seen H H2 h1)
  · have e1 : H1 = H := Yv_keeps hc1 h1
    have e2 : H2 = H1 := Yv_keeps hc2 hy
    subst e2; subst e1
    exact fin H2 hy (seen H2 H2 h1)
  · have e1 : H1 = H := Yv_keeps hc1 h1
    subst e1
    exact fin H2 hy (seen H2 H2 (Yv_more (Yv_new hc2 hy) hc1 h1))
theorem chain_mono {P : Program} {ops : Array Oper} {l l' : List Oper} (h : ∀ s K, chain P ops l s K → chain P ops l' s K) (x : Oper) {s : St} {K : St → Prop} (hc : chain P ops (x :: l) s K) : chain P ops (x :: l') s K := by
  obtain ⟨v, H, h1, h2⟩ := hc
  exact ⟨v, H, h1, h _ _ h2⟩
theorem chain_front {P : Program} {ops : Array Oper} {y : Oper} {l2 : List Oper} : ∀ {l1 : List Oper} {s : St} {K : St → Prop}, (∀ x ∈ l1, x.apart ops y = true ∧ commB x.op y.op = true) → chain P ops (l1 ++ y :: l2) s K → chain P ops (y :: (l1 ++ l2)) s K
  | [], s, K, _, h => h
  | x :: l1, s, K, hx, h => by
    have h1 : chain P ops (x :: y :: (l1 ++ l2)) s K := chain_mono (fun s K hc => chain_front (fun z hz => hx z (List.mem_cons_of_mem _ hz)) hc) x h
    have := chain_swap (hx x (by simp)).1 (hx x (by simp)).2 h1
    exact this
section
variable {P : Program} {w0 : World} {O M : Nat → Prop} {s : St} {loc : Nat → Value} {a : Act} {w : World} {o : Oper}
theorem dK_sound {v : V} {H' : Heap} (h : dK P o (ev s.slots) s.heap (fun u G => u = v ∧ G = H')) (S : SimAt w0 O M s.heap loc s.slots a.tmps.toList w) {next : Act → World → Prop} {Q : Exit → Act → World → Prop}
    (hn : ∀ loc' x w', SimAt w0 O M H' loc' s.slots a.tmps.toList w' → Rel (env w' O H' loc') x v → next (a.put o.dst x) w') : o.wp P a w next Q := by
  have viaR : stepR P o s (fun u s' => u = v ∧ s' = ⟨s.slots, H'⟩) → a.defers = a.defers → o.wp P a w next Q := by
    intro hr _
    have other : opK P o s (fun u s' => u = v ∧ s' = ⟨s.slots, H'⟩) → o.wp P a w next Q := fun h => (op_sound h S).wp (fun u s' x loc' w' h1 h2 h3 => by
      obtain ⟨rfl, rfl⟩ := h1
      exact hn loc' x w' h2 h3)
    unfold stepR at hr
    split at hr
    · rename_i x args argTypes hop
      rcases hr w0 O M loc a.tmps.toList w (a.eval x) (args.toList.map a.eval) S (ev_rel S.vals x) (by
        refine ⟨by simp, fun i hi => ?_⟩
        have hi' : i < args.toList.length := by simpa using hi
        rw [getD_map_lt hi', getD_map_lt hi']; exact ev_rel S.vals _) with ⟨f, arr, hfx, hbc⟩ | ⟨f, first, hfx, hb, hc⟩
      rotate_left
      · have hrun : (execOp a.eval o).run P w = .ok (.enter f (first ++ (args.toList.map a.eval).toArray)) w := by
          unfold execOp
          simp only [hop, resolve, Sem.run_bind, hfx, Deferred.ofValue, Sem.run_pure, Result.andThen_ok, invoke]
          rw [run_callFunc hb]
          congr 2
          apply Array.ext'
          simp
        unfold Oper.wp
        rw [hrun]
        refine hc.mono ?_
        rintro e w' ⟨u, s', y, loc', ⟨rfl, rfl⟩, rfl, S', hr⟩
        exact hn loc' y w' S' hr
      rcases hbc with ⟨hb, hc⟩ | ⟨u, y, hrun0, ⟨rfl, e⟩, hry⟩
      · have hrun : (execOp a.eval o).run P w = .ok (.enter f ((args.toList.map a.eval).toArray ++ arr)) w := by
          unfold execOp
          simp only [hop, resolve, Sem.run_bind, hfx, Deferred.ofValue, Sem.run_pure, Result.andThen_ok, invoke]
          rw [run_callFunc hb]
          congr 2
          apply Array.ext'
          simp
        unfold Oper.wp
        rw [hrun]
        refine hc.mono ?_
        rintro e w' ⟨u, s', y, loc', ⟨rfl, rfl⟩, rfl, S', hr⟩
        exact hn loc' y w' S' hr
      · have hrun : (execOp a.eval o).run P w = .ok (.value y) w := by
          unfold execOp
          simp only [hop, resolve, Sem.run_bind, hfx, Deferred.ofValue, Sem.run_pure, Result.andThen_ok, invoke]
          rw [← hrun0]
          congr 2
          apply Array.ext'
          simp
        unfold Oper.wp
        rw [hrun]
        have eh : s.heap = H' := congrArg St.heap e
        rw [eh] at S hry
        exact hn loc y w S hry
    · exact other hr
  have viaV : ∀ {op : Op}, o.op = op → valK P op (ev s.slots) s.heap (fun u => u = v ∧ s.heap = H') → o.wp P a w next Q := by
    intro op ho hv
    exact (Steps1.val (K := fun u s' => (u = v ∧ s.heap = H') ∧ s' = s) ho (by simpa using hv) S).wp (fun u s' x loc' w' h1 h2 h3 => by
      obtain ⟨⟨rfl, e⟩, rfl⟩ := h1
      rw [e] at h2 h3
      exact hn loc' x w' h2 h3)
  unfold dK at h
  revert h
  cases hop : o.op with
  | call c =>
    obtain ⟨callee, args, argTypes⟩ := c
    cases callee with
    | value x =>
      rintro ⟨f, caps, us, r, h1, h2, h3, h4, h5, rfl, rfl⟩
      refine viaR ?_ rfl
      unfold stepR
      rw [hop]
      simp only
      rcases h1 with ⟨h1, h6⟩ | ⟨first, h1, h6⟩
      · rw [h1]
        exact CallS.fn h3 h2 h6 h5 ⟨rfl, rfl⟩
      · rw [h1]
        exact CallS.bnd h3 h2 h6 h5 ⟨rfl, rfl⟩
    | builtin b =>
      cases b with
      | copy =>
        intro h
        refine viaR ?_ rfl
        unfold stepR opK
        rw [hop]
        simp only at h ⊢
        split at h
        · rename_i a b t t' ha ht
          obtain ⟨te, te', sz, by_, id, off, len, cap, es, ns, n, h1, h2, h3, h4, h5, h6, h7, h8, h9⟩ := h
          rw [ha, ht]
          exact Or.inl ⟨te, te', sz, by_, id, off, len, cap, es, ns, n, h1, h2, h3, h4, h5, h6, h7, h8, by rw [← h9]⟩
        · exact h.elim
      | _ => exact viaV hop
    | invoke r m => exact viaV hop
  | buildSlice t n parts =>
    intro h
    refine viaR ?_ rfl
    unfold stepR opK
    rw [hop]
    simp only at h ⊢
    cases ht : slv P t with
    | none => rw [ht] at h; exact h.elim
    | some q =>
      obtain ⟨te, sz, by_⟩ := q
      rw [ht] at h
      obtain ⟨h1, h2, h3, h4, h5, h6, h7, h8, h9⟩ := h
      exact ⟨h1, h2, h3, h4, h5, h6, h7, .inl ⟨h8, by rw [← h9]⟩⟩
  | store t p x =>
    intro h
    refine viaR ?_ rfl
    unfold stepR opK
    rw [hop]
    simp only at h ⊢
    cases ht : tyv P t with
    | none => rw [ht] at h; exact h.elim
    | some q =>
      obtain ⟨ag, n⟩ := q
      rw [ht] at h
      simp only at h ⊢
      cases hp : ev s.slots p with
      | ptr id i fo =>
        rw [hp] at h
        simp only at h ⊢
        cases hl : look s.heap id with
        | none => rw [hl] at h; exact h.elim
        | some ob =>
          rw [hl] at h
          obtain ⟨h1, h2, h3, h4, h5, h6, h7, h8⟩ := h
          exact ⟨h1, h2, h3, h4, h5, h6, h7, by rw [h8]⟩
      | _ => rw [hp] at h; exact h.elim
  | alloc t =>
    intro h
    refine viaR ?_ rfl
    unfold stepR opK
    rw [hop]
    simp only at h ⊢
    unfold free
    cases hd : o.dst with
    | none => rw [hd] at h; exact h.elim
    | some d =>
      rw [hd] at h
      cases hz : zv P t with
      | none => rw [hz] at h; exact h.elim
      | some z =>
        rw [hz] at h
        obtain ⟨h1, h2, h3, h4⟩ := h
        exact ⟨h1, h2, h3, by rw [h4]⟩
  | box t x =>
    intro h
    refine viaR ?_ rfl
    unfold stepR opK
    rw [hop]
    simp only at h ⊢
    unfold free
    cases hd : o.dst with
    | none => rw [hd] at h; exact h.elim
    | some d =>
      rw [hd] at h
      obtain ⟨h1, h2, h3, h4⟩ := h
      exact ⟨h1, h2, h3, by rw [h4]⟩
  | _ => exact viaV hop
theorem Yv_sound {ops : Array Oper} {i : Nat} (hi : ops[i]? = some o) {v : V} {H' : Heap} (h : Yv P ops o s v H') (S : SimAt w0 O M s.heap loc s.slots a.tmps.toList w) (hd : a.defers = []) {K : Act → World → Prop} {Q : Exit → Act → World → Prop}
    (hn : ∀ loc' a' w', a'.defers = [] → SimAt w0 O M (after o s v H').heap loc' (after o s v H').slots a'.tmps.toList w' → K a' w') : wpOp P ops Q i K a w := by
  have go : dK P o (ev s.slots) s.heap (fun u G => u = v ∧ G = H') → o.wp P a w K Q := fun h => dK_sound h S fun loc' x w' S' hr => by
    obtain ⟨S'', hd'⟩ := put_sim (s := ⟨s.slots, H'⟩) S' hr o.dst
    exact hn loc' _ w' (hd'.trans hd) S''
  unfold wpOp
  simp only [hi]
  unfold Yv at h
  split at h
  · rename_i hg
    rw [if_pos (by simp [Region.wanted, hg])]
    exact .inl (go h)
  · rename_i j want hg
    obtain ⟨d, b, h1, h2, h3⟩ | ⟨d, arr, h1, h2, rfl, rfl⟩ := h
    case inr =>
      have hy : yielded ops a.tmps j = none := yielded_tuple h1 (by rw [← h2]; exact S.vals.getD d)
      rw [if_neg (by simp [Region.wanted, hg, hy])]
      obtain ⟨S'', hd'⟩ := put_sim S (Rel.sc undef) o.dst
      exact hn loc _ w (hd'.trans hd) S''
    have hx : a.tmps[d]? = some (.bool b) := by
      have := S.vals.getD d
      rw [h2] at this
      have e := Rel.sc_iff.1 this
      rw [List.getD_eq_getElem?_getD, Array.getElem?_toList] at e
      cases hq : a.tmps[d]? with
      | none => rw [hq] at e; simp [undef] at e
      | some y => rw [hq] at e; simp at e; rw [e]
    have hy : yielded ops a.tmps j = some b := by simp [yielded, h1, hx]
    by_cases hw : b = want
    · rw [if_pos hw] at h3
      rw [if_pos (by simp [Region.wanted, hg, hy, hw])]
      exact .inl (go h3)
    · rw [if_neg hw] at h3
      obtain ⟨rfl, rfl⟩ := h3
      rw [if_neg (by simp [Region.wanted, hg, hy, hw])]
      obtain ⟨S'', hd'⟩ := put_sim S (Rel.sc undef) o.dst
      exact hn loc _ w (hd'.trans hd) S''
end
end Go.AM
namespace Go.AM
open V (Le LeL)
def drawB (ops : Array Oper) : Bool :=
  (List.range ops.size).all fun j => match ops[j]? with
    | some oj => oj.after.all (fun e => !Region.binds .any e || decide (e.on < j)) && (List.range j).all fun i => match ops[i]? with
        | some oi => oj.after.any (fun e => Region.binds .any e && e.on == i) || (oi.apart ops oj && commB oi.op oj.op)
        | none => true
    | none => true
theorem drawB_lt {ops : Array Oper} (h : drawB ops = true) {j : Nat} {oj : Oper} (hj : ops[j]? = some oj) : ∀ e ∈ oj.after, Region.binds .any e = true → e.on < j := by
  have h1 := List.all_eq_true.1 h j (List.mem_range.2 (Array.getElem?_eq_some_iff.1 hj).1)
  simp only [hj, Bool.and_eq_true] at h1
  intro e he hb
  have := (Array.all_eq_true'.1 h1.1) e he
  simpa [hb] using this
theorem drawB_comm {ops : Array Oper} (h : drawB ops = true) {i j : Nat} {oi oj : Oper} (hi : ops[i]? = some oi) (hj : ops[j]? = some oj) (hij : i < j) (hno : ∀ e ∈ oj.after, Region.binds .any e = true → e.on ≠ i) :
    oi.apart ops oj = true ∧ commB oi.op oj.op = true := by
  have h1 := List.all_eq_true.1 h j (List.mem_range.2 (Array.getElem?_eq_some_iff.1 hj).1)
  simp only [hj, Bool.and_eq_true] at h1
  have h2 := List.all_eq_true.1 h1.2 i (List.mem_range.2 hij)
  simp only [hi, Bool.or_eq_true, Bool.and_eq_true] at h2
  rcases h2 with h2 | h2
  · obtain ⟨e, he, h3⟩ := (Array.any_eq_true').1 h2
    simp only [Bool.and_eq_true, beq_iff_eq] at h3
    exact absurd h3.2 (hno e he h3.1)
  · exact h2
def unlisted (ops : Array Oper) (listed : Array Bool) : List Nat := (List.range ops.size).filter fun i => !listed.getD i true
theorem unlisted_sorted (ops : Array Oper) (listed : Array Bool) : (unlisted ops listed).Pairwise (· < ·) := List.Pairwise.filter _ List.pairwise_lt_range
theorem mem_unlisted {ops : Array Oper} {listed : Array Bool} {i : Nat} : i ∈ unlisted ops listed ↔ i < ops.size ∧ listed.getD i true = false := by
  simp [unlisted]
theorem unlisted_set {ops : Array Oper} {listed : Array Bool} {j : Nat} {l1 l2 : List Nat} (h : unlisted ops listed = l1 ++ j :: l2) (hsz : listed.size = ops.size) :
    unlisted ops (listed.setIfInBounds j true) = l1 ++ l2 := by
  have hs := unlisted_sorted ops listed
  have hj : j ∈ unlisted ops listed := by rw [h]; simp
  have e1 : unlisted ops (listed.setIfInBounds j true) = (unlisted ops listed).filter fun i => i != j := by
    unfold unlisted
    rw [List.filter_filter]
    apply List.filter_congr
    intro i hi
    by_cases hij : j = i
    · subst hij
      have hlt : j < listed.size := by rw [hsz]; exact (mem_unlisted.1 hj).1
      simp [Array.getD_eq_getD_getElem?, hlt]
    · have hij' : i ≠ j := fun e => hij e.symm
      simp [Array.getD_eq_getD_getElem?, Array.getElem?_setIfInBounds_ne hij, hij']
  rw [e1, h]
  rw [h, List.pairwise_append] at hs
  obtain ⟨_, hs2, hs3⟩ := hs
  rw [List.pairwise_cons] at hs2
  rw [List.filter_append, List.filter_cons_of_neg (by simp)]
  congr 1
  · rw [List.filter_eq_self]; intro x hx; have := hs3 x hx j (by simp); simp; omega
  · rw [List.filter_eq_self]; intro x hx; have := hs2.1 x hx; simp; omega
section
variable {P : Program} {w0 : World} {O M : Nat → Prop}
theorem any_sound {ops : Array Oper} (hB : drawB ops = true) {Q : Exit → Act → World → Prop} {K : St → Prop} (hQ : ∀ s' loc' a' w', K s' → a'.defers = [] → SimAt w0 O M s'.heap loc' s'.slots a'.tmps.toList w' → Q .normal a' w') :
    ∀ (n : Nat) (listed : Array Bool) (s : St) (loc : Nat → Value) (a : Act) (w : World), listed.size = ops.size → (unlisted ops listed).length = n → chain P ops ((unlisted ops listed).map fun i => ops.getD i default) s K → a.defers = [] →
      SimAt w0 O M s.heap loc s.slots a.tmps.toList w → wpAny P .any ops Q n listed a w
  | 0, listed, s, loc, a, w, hsz, hn, hc, hd, S => by
    have e : unlisted ops listed = [] := List.eq_nil_of_length_eq_zero hn
    rw [e] at hc
    refine ⟨?_, hQ s loc a w hc hd S⟩
    apply List.eq_nil_iff_forall_not_mem.2
    intro j hj
    obtain ⟨h1, o, h2, _⟩ := mem_ready.1 hj
    have : j ∈ unlisted ops listed := mem_unlisted.2 ⟨(Array.getElem?_eq_some_iff.1 h2).1, h1⟩
    rw [e] at this; cases this
  | n + 1, listed, s, loc, a, w, hsz, hn, hc, hd, S => by
    refine ⟨fun h0 => ?_, fun j hj => ?_⟩
    · -- the first that is left is ready
      exfalso
      obtain ⟨i, l, hl⟩ : ∃ i l, unlisted ops listed = i :: l := by
        cases hq : unlisted ops listed with
        | nil => rw [hq] at hn; cases hn
        | cons i l => exact ⟨i, l, rfl⟩
      have hi : i ∈ unlisted ops listed := by rw [hl]; simp
      obtain ⟨h1, h2⟩ := mem_unlisted.1 hi
      have hs := unlisted_sorted ops listed
      rw [hl, List.pairwise_cons] at hs
      have : i ∈ Region.ready .any ops listed := mem_ready.2 ⟨h2, ops[i], by simp [h1], fun e he hb => by
        have hlt := drawB_lt hB (j := i) (oj := ops[i]) (by simp [h1]) e he hb
        have hnot : e.on ∉ unlisted ops listed := by
          rw [hl]; intro hm
          rcases List.mem_cons.1 hm with hm | hm
          · omega
          · have := hs.1 _ hm; omega
        have h3 : ¬ (e.on < ops.size ∧ listed.getD e.on true = false) := fun hh => hnot (mem_unlisted.2 hh)
        have h4 : e.on < ops.size := by omega
        have h5 : listed.getD e.on true = true := by
          cases hq : listed.getD e.on true with
          | true => rfl
          | false => exact absurd ⟨h4, hq⟩ h3
        have h6 : e.on < listed.size := by omega
        simpa [Array.getD_eq_getD_getElem?, h6] using h5⟩
      rw [h0] at this; cases this
    · obtain ⟨h1, oj, h2, h3⟩ := mem_ready.1 hj
      have hm : j ∈ unlisted ops listed := mem_unlisted.2 ⟨(Array.getElem?_eq_some_iff.1 h2).1, h1⟩
      obtain ⟨l1, l2, hl⟩ := List.append_of_mem hm
      have hs := unlisted_sorted ops listed
      rw [hl, List.pairwise_append] at hs
      have hgj : ops.getD j default = oj := by simp [Array.getD_eq_getD_getElem?, h2]
      rw [hl, List.map_append, List.map_cons, hgj] at hc
      have hf := chain_front (y := oj) (l1 := l1.map fun i => ops.getD i default) (fun x hx => by
        obtain ⟨i, hi, rfl⟩ := List.mem_map.1 hx
        have hij : i < j := hs.2.2 i hi j (by simp)
        have hiu : i ∈ unlisted ops listed := by rw [hl]; simp [hi]
        obtain ⟨g1, g2⟩ := mem_unlisted.1 hiu
        have hgi : ops[i]? = some (ops.getD i default) := by simp [Array.getD_eq_getD_getElem?, g1]
        refine drawB_comm hB hgi h2 hij fun e he hb heq => ?_
        have := h3 e he hb
        rw [heq] at this
        have hlt : i < listed.size := by omega
        simp [Array.getD_eq_getD_getElem?, hlt] at this g2
        rw [this] at g2; cases g2) hc
      rw [← List.map_append] at hf
      obtain ⟨v, H', hY, hrest⟩ := hf
      have hset := unlisted_set hl hsz
      refine Yv_sound h2 hY S hd fun loc' a' w' hd' S' => ?_
      refine any_sound hB hQ n _ _ loc' a' w' (by simpa using hsz) ?_ (by rw [hset]; exact hrest) hd' S'
      rw [hset]
      have := congrArg List.length hl
      simp at this ⊢
      omega
theorem Runs.drawn {f : FuncId} {post : V → Heap → Prop} {k : List Item} {s : St} {id : Nat} {l : List Oper} (hm : P.follows .mixedOrders = true) (hB : drawB l.toArray = true) (h : evalD P l.toArray l s (Runs P f post k)) :
    Runs P f post (.code (.region id l.toArray true) :: k) s :=
  Runs.of_wp fun w0 O M loc a w hd S => by
    refine wp_region_any hm ?_
    have hu : unlisted l.toArray (Array.replicate l.toArray.size false) = List.range l.toArray.size := by
      unfold unlisted
      rw [List.filter_eq_self]
      intro i hi
      have : i < l.length := by simpa using hi
      simp [Array.getD_eq_getD_getElem?, this]
    have hmap : (List.range l.toArray.size).map (fun i => l.toArray.getD i default) = l := by
      apply List.ext_getElem
      · simp
      · intro i h1 h2
        simp [Array.getD_eq_getD_getElem?, h2]
    have := any_sound (P := P) (w0 := w0) (O := O) (M := M) hB (Q := fun e a' w' => e = .normal ∧ ∃ s' loc', Runs P f post k s' ∧ a'.defers = [] ∧ SimAt w0 O M s'.heap loc' s'.slots a'.tmps.toList w') (K := Runs P f post k)
      (fun s' loc' a' w' hR hd' S' => ⟨rfl, s', loc', hR, hd', S'⟩) l.toArray.size (Array.replicate l.toArray.size false) s loc a { w with drawn := w.drawn + 1 } (by simp) (by rw [hu]; simp) (by rw [hu, hmap]; exact chain_of_evalD h) hd
      (S.grows (Grows.drew w))
    exact this
end
end Go.AM
