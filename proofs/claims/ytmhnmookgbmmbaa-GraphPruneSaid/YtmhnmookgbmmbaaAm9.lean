/- The abstract machine, part 9: operations that make or write objects ('opK'). -/
import Derived.Test.YtmhnmookgbmmbaaAm8
set_option linter.unusedVariables false
set_option linter.unusedSimpArgs false
namespace Go.AM

def St.put (s : St) (d : Option Nat) (v : V) : St := match d with
  | some d => ⟨s.slots.set d v, s.heap⟩
  | none => s
/-- Cells of a value are written. -/
def splice (v : V) (fo : Nat) (cs : List V) : V := match v with
  | .agg ds => .agg (ds.take fo ++ cs ++ ds.drop (fo + cs.length))
  | _ => cs.headD .any
def Obj.wr (o : Obj) (i fo : Nat) (cs : List V) : Obj := match o with
  | .var t v => .var t (splice v fo cs)
  | .lst t sz es => .lst t sz (es.set i (splice (es.getD i .any) fo cs))
  | .row t sz es => .row t sz (es.set i (splice (es.getD i .any) fo cs))
  | o => o
def isVar : Obj → Bool | .var .. => true | _ => false
/-- The elements of a slice that is read from. -/
def srcK (P : Program) (t : TypeId) (sz : Nat) (H : Heap) (x : V) (K : List V → Prop) : Prop := match x with
  | .sl _ ns => (slv P t).isSome = true ∧ Stride sz ns ∧ K ns
  | .own id => match look H id with
    | some (.lst _ sz' ns) => (slv P t).isSome = true ∧ sz' = sz ∧ K ns
    | _ => False
  | .sc (.slice none 0 0) => (slv P t).isSome = true ∧ K []
  | _ => False
/-- The zero of an element type has the type's cells. -/
def zok (P : Program) (te : TypeId) (sz : Nat) : Prop := match zv P te with
  | some z => z.cells.length = sz
  | none => False
/-- Elements that may be stored. -/
def Storable (ns : List V) : Prop := ∀ v ∈ ns, v.okCells = true

/-- Where a new object may be named. -/
def free (s : St) (d : Option Nat) (K : Nat → Prop) : Prop := match d with
  | some d => look s.heap d = none ∧ K d
  | none => False

/-- A map with another value at a key. -/
def mset (ks : List Value) (vs : List V) (k : Value) (x : V) : Option Nat → Obj
  | some i => .map ks (vs.set i x)
  | none => .map (ks ++ [k]) (vs ++ [x])
/-- A map without a place. -/
def mdel (ks : List Value) (vs : List V) : Option Nat → Obj
  | some i => .map (ks.eraseIdx i) (vs.eraseIdx i)
  | none => .map ks vs
/-- A map of the call's own is written. -/
def mapWr (P : Program) (s : St) (t : TypeId) (m k : V) (K : Nat → List Value → List V → Value → Option Nat → Prop) : Prop := match mpv P t with
  | some (kd, _) => match m, k with
    | .mp id, .sc kv => match look s.heap id with
      | some (.map ks vs) => match mfind kd kv ks 0 with
        | some r => K id ks vs kv r
        | none => False
      | _ => False
    | _, _ => False
  | none => False

def opK (P : Program) (o : Oper) (s : St) (K : V → St → Prop) : Prop := match o.op with
  | .makeMap t none => (mpv P t).isSome = true ∧ free s o.dst fun d => K (.mp d) ⟨s.slots, (d, .map [] []) :: s.heap⟩
  | .mapUpdate t m k x => mapWr P s t (ev s.slots m) (ev s.slots k) fun id ks vs kv r => (ev s.slots x).data = true ∧ K .any ⟨s.slots, upd s.heap id (mset ks vs kv (ev s.slots x) r)⟩
  | .insert t m k x => mapWr P s t (ev s.slots m) (ev s.slots k) fun id ks vs kv r => (ev s.slots x).data = true ∧ K .any ⟨s.slots, upd s.heap id (mset ks vs kv (ev s.slots x) r)⟩
  | .call { callee := .builtin .delete, args, argTypes } => match args.toList, argTypes.toList with
    | [m, k], [t, _] => mapWr P s t (ev s.slots m) (ev s.slots k) fun id ks vs _ r => K .any ⟨s.slots, upd s.heap id (mdel ks vs r)⟩
    | _, _ => False
  | .box t x => free s o.dst fun d => (ev s.slots x).okCells = true ∧ K (.ptr d 0 0) ⟨s.slots, (d, .var t (ev s.slots x)) :: s.heap⟩
  | .alloc t => free s o.dst fun d => match zv P t with
    | some z => z.okCells = true ∧ K (.ptr d 0 0) ⟨s.slots, (d, .var t z) :: s.heap⟩
    | none => False
  | .store t a x => match tyv P t with
    | some (_, n) => match ev s.slots a with
      | .ptr id i fo => match look s.heap id with
        | some ob => i < ob.len ∧ fo + n ≤ (ob.elem i).cells.length ∧ 0 < n ∧ (ev s.slots x).cells.length = n ∧ (ev s.slots x).okCells = true ∧ (isVar ob = true ∨ (ev s.slots x).data = true) ∧
            K .any ⟨s.slots, upd s.heap id (ob.wr i fo (ev s.slots x).cells)⟩
        | none => False
      | _ => False
    | none => False
  | .buildSlice t n parts => match slv P t with
    | some (te, sz, _) => 0 < sz ∧ n * sz ≤ 16777216 ∧ zok P te sz ∧ (parts.toList.map (·.1)) = List.range n ∧ V.dataL (parts.toList.map fun p => ev s.slots p.2) = true ∧ Storable (parts.toList.map fun p => ev s.slots p.2) ∧ Stride sz (parts.toList.map fun p => ev s.slots p.2) ∧
        (K (.sl true (parts.toList.map fun p => ev s.slots p.2)) s ∨ (0 < n ∧ free s o.dst fun d => K (.own d) ⟨s.slots, (d, .lst te sz (parts.toList.map fun p => ev s.slots p.2)) :: s.heap⟩))
    | none => False
  | .makeSlice t l c => match slv P t, ev s.slots l, ev s.slots c with
    | some (te, sz, by_), .sc (.int _ n), .sc (.int _ m) => match zv P te with
      | some z => n = m ∧ 0 ≤ n ∧ n.toNat * by_ ≤ 140737488355328 ∧ n ≤ 140737488355328 ∧ 0 < sz ∧ z.cells.length = sz ∧ z.okCells = true ∧ free s o.dst fun d => K (.own d) ⟨s.slots, (d, .lst te sz (List.replicate n.toNat z)) :: s.heap⟩
      | none => False
    | _, _, _ => False
  | .call { callee := .builtin .append, args, argTypes } => match args.toList, argTypes.toList with
    | [a, b], [t, t'] => match slv P t with
      | some (te, sz, by_) => 0 < sz ∧ zok P te sz ∧ srcK P t' sz s.heap (ev s.slots b) fun ns => Storable ns ∧ match ev s.slots a with
        | .own id => match look s.heap id with
          | some (.lst te' sz' es) => te' = te ∧ sz' = sz ∧ (es.length + ns.length) * by_ ≤ 140737488355328 ∧ es.length + ns.length ≤ 140737488355328 ∧ K (.own id) ⟨V.killL id s.slots, updK id (.lst te sz (es ++ ns)) s.heap⟩
          | _ => False
        | .sl true es => Stride sz es ∧ (es.length + ns.length) * by_ ≤ 140737488355328 ∧ es.length + ns.length ≤ 140737488355328 ∧ (ns = [] → K (.sl true es) s) ∧
            (ns ≠ [] → free s o.dst fun d => K (.own d) ⟨s.slots, (d, .lst te sz (es ++ ns)) :: s.heap⟩)
        | .sc (.slice none 0 0) => ns.length * by_ ≤ 140737488355328 ∧ ns.length ≤ 140737488355328 ∧ free s o.dst fun d => K (.own d) ⟨s.slots, (d, .lst te sz ns) :: s.heap⟩
        | _ => False
      | none => False
    | _, _ => False
  | .call { callee := .builtin .copy, args, argTypes } => match args.toList, argTypes.toList with
    | [a, b], [t, t'] => match slv P t with
      | some (te, sz, by_) => srcK P t' sz s.heap (ev s.slots b) fun ns => Storable ns ∧ match ev s.slots a with
        | .own id => match look s.heap id with
          | some (.lst te' sz' es) => te' = te ∧ sz' = sz ∧ K (.sc (.int .i64 ((min ns.length es.length : Nat) : Int))) ⟨s.slots, upd s.heap id (.lst te sz (ns.take (min ns.length es.length) ++ es.drop (min ns.length es.length)))⟩
          | _ => False
        | _ => False
      | none => False
    | _, _ => False
  | .binOp .eql t x y ty => match ev s.slots x, ev s.slots y with
    | .sl _ es, .sc (.slice none 0 0) => (slv P t).isSome = true ∧ (es ≠ [] → K (.sc (.bool false)) s) ∧ (es = [] → ∀ b, K (.sc (.bool b)) s)
    | .own id, .sc (.slice none 0 0) => match look s.heap id with
      | some (.lst _ _ es) => (slv P t).isSome = true ∧ (es ≠ [] → K (.sc (.bool false)) s) ∧ (es = [] → ∀ b, K (.sc (.bool b)) s)
      | _ => False
    | .sc (.slice none 0 0), .sc (.slice none 0 0) => (slv P t).isSome = true ∧ K (.sc (.bool true)) s
    | _, _ => valK P (.binOp .eql t x y ty) (ev s.slots) s.heap fun v => K v s
  | op => valK P op (ev s.slots) s.heap fun v => K v s

theorem ev_rel {E : Env} {a : Act} {slots : List V} (h : RelL E a.tmps.toList slots) (x : Operand) : Rel E (a.eval x) (ev slots x) := by
  cases x with
  | tmp t => have := h.getD t; simpa [Act.eval, ev, Array.getD_eq_getD_getElem?, List.getD_eq_getElem?_getD] using this
  | const v => exact .sc v
  | global g => exact .any _
  | func f => exact Rel.fn_iff.2 ⟨#[], rfl, .nil _⟩

section
variable {P : Program} {w0 : World} {O M : Nat → Prop} {s : St} {loc : Nat → Value} {a : Act} {w : World} {o : Oper}

/-- What is shown of an operation. -/
def Steps1 (P : Program) (w0 : World) (O M : Nat → Prop) (a : Act) (w : World) (o : Oper) (K : V → St → Prop) : Prop :=
  ∃ (nx : Next) (w' : World) (v : V) (s' : St) (loc' : Nat → Value), (execOp a.eval o).run P w = .ok nx w' ∧ ((∃ x, nx = .value x ∧ Rel (env w' O s'.heap loc') x v) ∨ (nx = .skip ∧ v = .any)) ∧
    K v s' ∧ SimAt w0 O M s'.heap loc' s'.slots a.tmps.toList w'

theorem Steps1.wp {K : V → St → Prop} (h : Steps1 P w0 O M a w o K) {next : Act → World → Prop} {Q : Exit → Act → World → Prop}
    (hn : ∀ v s' x loc' w', K v s' → SimAt w0 O M s'.heap loc' s'.slots a.tmps.toList w' → Rel (env w' O s'.heap loc') x v → next (a.put o.dst x) w') : o.wp P a w next Q := by
  obtain ⟨nx, w', v, s', loc', h1, h2, h3, h4⟩ := h
  unfold Oper.wp
  rw [h1]
  rcases h2 with ⟨x, rfl, hr⟩ | ⟨rfl, rfl⟩
  · exact hn v s' x loc' w' h3 h4 hr
  · exact hn .any s' undef loc' w' h3 h4 (.any _)

theorem Steps1.val {K : V → St → Prop} {op : Op} (ho : o.op = op) (h : valK P op (ev s.slots) s.heap fun v => K v s) (S : SimAt w0 O M s.heap loc s.slots a.tmps.toList w) : Steps1 P w0 O M a w o K := by
  obtain ⟨x, v, h1, h2, h3⟩ := val_sound h ho (fun y => ev_rel S.vals y) S.objs
  exact ⟨_, w, v, s, loc, h1, .inl ⟨x, rfl, h2⟩, h3, S⟩

theorem run_lift {sem : Sem Value} {x : Value} {w w' : World} (h : sem.run P w = .ok x w') : (do pure (Next.value (← sem)) : Sem Next).run P w = .ok (.value x) w' := by
  simp [Sem.run_bind, h]

/-- A new block of cells. -/
theorem new_var (S : SimAt w0 O M s.heap loc s.slots a.tmps.toList w) {d : Nat} (hd : look s.heap d = none) {t : TypeId} {x : Value} {v : V} (hr : Rel (env w O s.heap loc) x v) (hv : v.okCells = true) :
    ∃ loc', SimAt w0 O M ((d, .var t v) :: s.heap) loc' s.slots a.tmps.toList (w.alloc (.cells x.cells t)) ∧
      Rel (env (w.alloc (.cells x.cells t)) O ((d, .var t v) :: s.heap) loc') (.pointer (some ⟨w.heap.size, 0, none⟩)) (.ptr d 0 0) := by
  have hg := Grows.alloc w (.cells x.cells t)
  have hcells := hr.cells hv
  obtain ⟨h1, h2⟩ := S.new d hd hg (.pointer (some ⟨w.heap.size, 0, none⟩)) (.var t v) (by intro b hb; simp [blk] at hb; omega)
    (fun hrel => ⟨w.heap.size, x.cells, by simp [env], heap_alloc_new w _, hcells.imp hrel⟩)
  refine ⟨_, h1, ?_⟩
  have := Rel.ptr (E := env (w.alloc (.cells x.cells t)) O ((d, .var t v) :: s.heap) (fun k => if k = d then .pointer (some ⟨w.heap.size, 0, none⟩) else loc k)) d 0 0 (.var t v) w.heap.size
    (by simp [env, look]) (by simp [env, blk])
  simpa [Obj.sz] using this

theorem free_elim {d : Option Nat} {K : Nat → Prop} (h : free s d K) : ∃ k, d = some k ∧ look s.heap k = none ∧ K k := by
  unfold free at h
  split at h
  · exact ⟨_, rfl, h⟩
  · exact h.elim

theorem op_box {K : V → St → Prop} {t : TypeId} {x : Operand} (ho : o.op = .box t x) (h : opK P o s K) (S : SimAt w0 O M s.heap loc s.slots a.tmps.toList w) : Steps1 P w0 O M a w o K := by
  simp only [opK, ho] at h
  obtain ⟨d, hd, hf, hok, hK⟩ := free_elim h
  obtain ⟨loc', h1, h2⟩ := new_var S hf (t := t) (ev_rel S.vals x) hok
  refine ⟨_, _, _, _, loc', ?_, .inl ⟨_, rfl, h2⟩, hK, h1⟩
  unfold execOp
  simp only [ho]
  refine run_lift ?_
  simp [Instr.box, newVar, newRow]

theorem op_alloc {K : V → St → Prop} {t : TypeId} (ho : o.op = .alloc t) (h : opK P o s K) (S : SimAt w0 O M s.heap loc s.slots a.tmps.toList w) : Steps1 P w0 O M a w o K := by
  simp only [opK, ho] at h
  obtain ⟨d, hd, hf, h⟩ := free_elim h
  split at h
  · rename_i z hz
    obtain ⟨i, x, hi, hx, hr⟩ := zv_rel hz (env w O s.heap loc)
    obtain ⟨loc', h1, h2⟩ := new_var S hf (t := t) hr h.1
    refine ⟨_, _, _, _, loc', ?_, .inl ⟨_, rfl, h2⟩, h.2, h1⟩
    unfold execOp
    simp only [ho]
    refine run_lift ?_
    simp [Instr.alloc, zeroValue, typeInfo, hi, hx, newVar, newRow]
  · exact h.elim

theorem splice_cells {v : V} {fo : Nat} {cs : List V} (h : fo + cs.length ≤ v.cells.length) (h0 : 0 < cs.length) (hc : cs.all V.one = true) :
    (splice v fo cs).cells = v.cells.take fo ++ cs ++ v.cells.drop (fo + cs.length) := by
  unfold splice
  split
  · rfl
  · rename_i hv
    have e : v.cells = [v] := by
      cases v <;> simp_all [V.cells]
    rw [e] at h ⊢
    simp only [List.length_cons, List.length_nil] at h
    have hf : fo = 0 := by omega
    have hl : cs.length = 1 := by omega
    subst hf
    obtain ⟨c, rfl⟩ := List.length_eq_one_iff.1 hl
    simp only [List.all_cons, List.all_nil, Bool.and_true] at hc
    cases c <;> simp_all [V.cells, V.one]

theorem okCells_all {cs : List V} (h : cs.all V.one = true) {E : Env} {xs : List Value} (hr : RelL E xs cs) : ∀ x ∈ xs, x.oneCell' = true := by
  intro x hx
  obtain ⟨i, hi, rfl⟩ := List.mem_iff_getElem.1 hx
  have hi' : i < cs.length := by rw [← hr.1]; exact hi
  have h1 := hr.2 i hi'
  have h2 : V.one (cs.getD i .any) = true := by
    rw [List.getD_eq_getElem?_getD, List.getElem?_eq_getElem hi']
    exact List.all_eq_true.1 h _ (List.getElem_mem hi')
  rw [List.getD_eq_getElem?_getD, List.getElem?_eq_getElem hi] at h1
  simp only [Option.getD_some] at h1
  generalize cs.getD i .any = v at h1 h2
  generalize xs[i] = x at h1
  cases h1 with
  | sc y => simpa [V.one] using h2
  | junk y hy => exact hy
  | any => simp [V.one] at h2
  | agg => simp [V.one] at h2
  | tup => simp [V.one] at h2
  | own id o a1 a2 a3 => obtain ⟨q1, q2, q3, e⟩ := a3; rw [e]; rfl
  | mp id o a1 a2 a3 => obtain ⟨q1, e⟩ := a3; rw [e]; rfl
  | _ => rfl

theorem run_storeVar {t : TypeId} {ag : Bool} {n : Nat} (ht : tyv P t = some (ag, n)) {g off : Nat} {x : Value} (hn : x.cells.size = n) {te : TypeId} {cur : Array Value} (hg : w.heap[g]? = some (.cells cur te (0, 0)))
    (hl : off + n ≤ cur.size) (h1 : ∀ y ∈ x.cells.toList, y.oneCell' = true) :
    (storeVar t ⟨g, off, none⟩ x).run P w = .ok () (w.setRow g (cur.toList.take off ++ x.cells.toList ++ cur.toList.drop (off + n)).toArray) := by
  obtain ⟨_, h2⟩ := tyv_run ht w
  unfold storeVar
  rw [Sem.run_bind, h2]
  simp only [Result.andThen_ok]
  rw [if_neg (by simp [hn]), run_storeCells_at P g off te x.cells.toList 0 cur w hg (by simp; omega) h1]
  simp [hn]

theorem setRow_ext (w : World) (g : Nat) (cs : Array Value) : Ext w (fun b => b = g) (w.setRow g cs) :=
  ⟨rfl, rfl, rfl, by simp, fun b _ hb => setRow_other w g b cs hb⟩

/-- Cells in the midst of a list are replaced. -/
theorem relL_splice {E E' : Env} {xs ys : List Value} {vs us : List V} {fo : Nat} (h : RelL E xs vs) (k : RelL E' ys us) (m : ∀ x v, Rel E x v → Rel E' x v) (hl : fo + us.length ≤ vs.length) :
    RelL E' (xs.take fo ++ ys ++ xs.drop (fo + ys.length)) (vs.take fo ++ us ++ vs.drop (fo + us.length)) := by
  refine (RelL.append ?_ k).append ?_
  · refine ⟨by simp [h.1], fun j hj => ?_⟩
    have hj' : j < fo := by simp at hj; omega
    have := m _ _ (h.2 j (by omega))
    simpa [List.getD_eq_getElem?_getD, List.getElem?_take, hj'] using this
  · rw [k.1]
    refine ⟨by simp [h.1], fun j hj => ?_⟩
    have := m _ _ (h.2 (fo + us.length + j) (by simp at hj; omega))
    simpa [List.getD_eq_getElem?_getD, List.getElem?_drop] using this

theorem getD_take {α : Type} {l : List α} {n i : Nat} (h : i < n) (d : α) : (l.take n).getD i d = l.getD i d := by
  simp [List.getD_eq_getElem?_getD, List.getElem?_take, h]
theorem getD_drop {α : Type} (l : List α) (n i : Nat) (d : α) : (l.drop n).getD i d = l.getD (n + i) d := by
  simp [List.getD_eq_getElem?_getD, List.getElem?_drop]
theorem getD_append_left {α : Type} {l m : List α} {i : Nat} (h : i < l.length) (d : α) : (l ++ m).getD i d = l.getD i d := by
  simp [List.getD_eq_getElem?_getD, List.getElem?_append_left h]
theorem getD_append_right {α : Type} {l m : List α} {i : Nat} (h : l.length ≤ i) (d : α) : (l ++ m).getD i d = m.getD (i - l.length) d := by
  simp [List.getD_eq_getElem?_getD, List.getElem?_append_right h]
theorem getD_set_eq {α : Type} {l : List α} {i : Nat} (h : i < l.length) (x d : α) : (l.set i x).getD i d = x := by
  simp [List.getD_eq_getElem?_getD, h]
theorem getD_set_ne' {α : Type} {l : List α} {i j : Nat} (h : i ≠ j) (x d : α) : (l.set i x).getD j d = l.getD j d := by
  simp [List.getD_eq_getElem?_getD, List.getElem?_set_ne h]

/-- One element of a flat row is written. -/
theorem Flat.wr {E E' : Env} {f : Nat → Value} {sz : Nat} {es : List V} (h : Flat E f sz es) (m : ∀ x v, Rel E x v → Rel E' x v) {i fo : Nat} (hi : i < es.length) {us : List V} {ys : List Value} (hy : RelL E' ys us)
    (hl : fo + us.length ≤ sz) (h0 : 0 < us.length) (hok : us.all V.one = true) {f' : Nat → Value}
    (hf1 : ∀ j, j < us.length → f' (i * sz + fo + j) = ys.getD j undef) (hf2 : ∀ k, (k < i * sz + fo ∨ i * sz + fo + us.length ≤ k) → k < es.length * sz → f' k = f k) :
    Flat E' f' sz (es.set i (splice (es.getD i .any) fo us)) := by
  have hlen := h.1 i hi
  have hsp := splice_cells (v := es.getD i .any) (fo := fo) (cs := us) (by omega) h0 hok
  have hmul : ∀ j k, j < k → k ≤ es.length → j * sz + sz ≤ k * sz := fun j k hjk _ => by
    have : (j + 1) * sz ≤ k * sz := Nat.mul_le_mul_right _ hjk
    rw [Nat.add_mul] at this; omega
  refine ⟨fun j hj => ?_, fun j c hj hc => ?_⟩
  · rw [List.length_set] at hj
    by_cases e : i = j
    · subst e; rw [getD_set_eq hi, hsp, List.length_append, List.length_append, List.length_take, List.length_drop]; omega
    · rw [getD_set_ne' e]; exact h.1 j hj
  · rw [List.length_set] at hj
    by_cases e : i = j
    · subst e
      rw [getD_set_eq hi, hsp]
      have hb : i * sz + c < es.length * sz := by have := hmul i es.length hi (Nat.le_refl _); omega
      have e2 : ((es.getD i .any).cells.take fo).length = fo := by rw [List.length_take]; omega
      by_cases c1 : c < fo
      · rw [getD_append_left (by rw [List.length_append, e2]; omega), getD_append_left (by rw [e2]; omega), getD_take c1, hf2 _ (.inl (by omega)) hb]
        exact m _ _ (h.2 i c hi hc)
      · by_cases c2 : c < fo + us.length
        · have e1 : i * sz + c = i * sz + fo + (c - fo) := by omega
          rw [getD_append_left (by rw [List.length_append, e2]; omega), getD_append_right (by rw [e2]; omega), e2, e1, hf1 _ (by omega)]
          exact hy.2 _ (by omega)
        · rw [getD_append_right (by rw [List.length_append, e2]; omega), List.length_append, e2, getD_drop, hf2 _ (.inr (by omega)) hb]
          have := m _ _ (h.2 i c hi hc)
          rwa [show fo + us.length + (c - (fo + us.length)) = c by omega]
    · rw [getD_set_ne' e]
      have hb : j * sz + c < es.length * sz := by have := hmul j es.length hj (Nat.le_refl _); omega
      rw [hf2 _ ?_ hb]
      · exact m _ _ (h.2 j c hj hc)
      · rcases Nat.lt_or_gt_of_ne e with hlt | hgt
        · right; have := hmul i j hlt (by omega); omega
        · left; have := hmul j i hgt (by omega); omega

theorem headD_eq {α : Type} (l : List α) (d : α) : l.headD d = l.getD 0 d := by cases l <;> rfl
theorem op_store {K : V → St → Prop} {t : TypeId} {p x : Operand} (ho : o.op = .store t p x) (h : opK P o s K) (S : SimAt w0 O M s.heap loc s.slots a.tmps.toList w) : Steps1 P w0 O M a w o K := by
  simp only [opK, ho] at h
  split at h
  · rename_i ag n ht
    split at h
    · rename_i id i fo hp
      split at h
      · rename_i ob hob
        obtain ⟨hi, hl, h0, hxl, hxo, hv, hK⟩ := h
        have hx := ev_rel S.vals x
        have hpr := ev_rel S.vals p
        rw [hp] at hpr
        obtain ⟨ob', g, ep, e1, e2⟩ := hpr.ptr_inv
        have : ob' = ob := by have : look s.heap id = some ob' := e1; rw [hob] at this; cases this; rfl
        subst this
        have hc := hx.cells hxo
        have hcl : (a.eval x).cells.size = n := by have := hc.1; simp at this; omega
        have hok : (ev s.slots x).cells.all V.one = true := hxo
        have hone := okCells_all hok hc
        have hdc : (ev s.slots x).data = true → V.dataL (ev s.slots x).cells = true := V.data_cells
        generalize (ev s.slots x).cells = us at *
        have hus : us.length = n := hxl
        have fin : ∀ (te : TypeId) (cur : Array Value), w.heap[g]? = some (.cells cur te (0, 0)) → i * ob'.sz + fo + n ≤ cur.size →
            ((∀ y v, Rel (env w O s.heap loc) y v → Rel (env (w.setRow g (cur.toList.take (i * ob'.sz + fo) ++ (a.eval x).cells.toList ++ cur.toList.drop (i * ob'.sz + fo + n)).toArray) O (upd s.heap id (ob'.wr i fo us)) loc) y v) →
              ObjOK (env (w.setRow g (cur.toList.take (i * ob'.sz + fo) ++ (a.eval x).cells.toList ++ cur.toList.drop (i * ob'.sz + fo + n)).toArray) O (upd s.heap id (ob'.wr i fo us)) loc) id (ob'.wr i fo us)) →
            Steps1 P w0 O M a w o K := by
          intro te cur hg hsz hnew
          have hal : (ob'.wr i fo us).alike ob' := by cases ob' <;> simp [Obj.wr, Obj.alike]
          obtain ⟨h1, h2⟩ := S.write id ob' (ob'.wr i fo us) hob hal e2 (setRow_ext w g _) hnew
          refine ⟨.skip, _, _, _, loc, ?_, .inr ⟨rfl, rfl⟩, hK, h1⟩
          unfold execOp
          simp only [ho, ep, Instr.storeAt, Instr.sureAddr, Sem.run_bind, Sem.run_pure, Result.andThen_ok]
          rw [run_storeVar ht hcl hg hsz hone]
          rfl
        have hobj := S.objs id ob' hob
        have hget : ∀ (cur : List Value) (b : Nat), b + n ≤ cur.length → (∀ j, j < us.length → (cur.take b ++ (a.eval x).cells.toList ++ cur.drop (b + n)).getD (b + j) undef = (a.eval x).cells.toList.getD j undef) ∧
            (∀ k, (k < b ∨ b + us.length ≤ k) → (cur.take b ++ (a.eval x).cells.toList ++ cur.drop (b + n)).getD k undef = cur.getD k undef) := by
          intro cur b hb
          have l1 : (cur.take b).length = b := by rw [List.length_take]; omega
          have l2 : (a.eval x).cells.toList.length = n := by rw [Array.length_toList]; exact hcl
          refine ⟨fun j hj => ?_, fun k hk => ?_⟩
          · rw [getD_append_left (by rw [List.length_append, l1, l2]; omega), getD_append_right (by rw [l1]; omega), l1, show b + j - b = j by omega]
          · rcases hk with hk | hk
            · rw [getD_append_left (by rw [List.length_append, l1, l2]; omega), getD_append_left (by rw [l1]; omega), getD_take hk]
            · rw [getD_append_right (by rw [List.length_append, l1, l2]; omega), List.length_append, l1, l2, getD_drop, show b + n + (k - (b + n)) = k by omega]
        cases ob' with
        | var t' v' =>
          obtain ⟨g', arr, el, hh, hr⟩ := hobj
          have el' : loc id = .pointer (some ⟨g', 0, none⟩) := el
          have e2' : blk (loc id) = some g := e2
          rw [el'] at e2'
          simp [blk] at e2'
          subst e2'
          have hi0 : i = 0 := by simp [Obj.len] at hi; omega
          subst hi0
          have hlen : arr.size = v'.cells.length := by have := hr.1; simpa using this
          simp only [Obj.elem] at hl
          refine fin t' arr hh (by simp [Obj.sz]; omega) (fun hrel => ?_)
          refine ⟨g', _, el', setRow_heap w g' arr _ t' (0, 0) hh, ?_⟩
          have e3 := splice_cells (v := v') (fo := fo) (cs := us) (by omega) (by omega) hok
          show RelL _ _ ((splice v' fo us).cells)
          rw [e3]
          have := relL_splice (fo := fo) hr (hc.imp hrel) hrel (by omega)
          simp only [Obj.sz, Nat.mul_zero, Nat.zero_add]
          rw [show fo + (a.eval x).cells.toList.length = fo + n by simp [hcl]] at this
          simpa using this
        | lst t' sz' es =>
          obtain ⟨⟨hz, hd⟩, xs', hr, hf⟩ := hobj
          have hi' : i < es.length := hi
          have hfi := hf.1 i hi'
          simp only [Obj.elem] at hl
          rcases hr.2 with ⟨e, hz0⟩ | ⟨g', cap, cur, e, h1, hg, h2, h3, h4, h5⟩
          · omega
          · have el' : loc id = .slice (some ⟨g', 0, none⟩) es.length cap := e
            have e2' : blk (loc id) = some g := e2
            rw [el'] at e2'
            simp [blk] at e2'
            subst e2'
            have hmul : i * sz' + sz' ≤ es.length * sz' := by
              have : (i + 1) * sz' ≤ es.length * sz' := Nat.mul_le_mul_right _ hi'
              rw [Nat.add_mul] at this; omega
            have hcap : es.length * sz' ≤ cap * sz' := Nat.mul_le_mul_right _ h2
            have hxs : xs'.length = es.length * sz' := hr.1
            have hdat : V.dataL us = true := by
              rcases hv with hv | hv
              · simp [isVar] at hv
              · exact hdc hv
            refine fin t' cur hg (by simp only [Obj.sz]; omega) (fun hrel => ?_)
            obtain ⟨k1, k2⟩ := hget cur.toList (i * sz' + fo) (by rw [Array.length_toList]; omega)
            have hcur : ∀ k, k < es.length * sz' → cur.toList.getD k undef = xs'.getD k undef := fun k hk => by
              rw [← h5, getD_take hk]
            have hdat' : V.dataL (es.set i (splice (es.getD i .any) fo us)) = true := by
              rw [V.dataL_iff] at hd ⊢
              intro v hv'
              rcases List.mem_or_eq_of_mem_set hv' with hv' | rfl
              · exact hd v hv'
              · have hdi := V.dataL_getD (V.dataL_iff.2 hd) i
                unfold splice
                split
                · rename_i ds hds
                  rw [hds] at hdi
                  simp only [V.data] at hdi ⊢
                  rw [V.dataL_append, V.dataL_append]
                  simp only [Bool.and_eq_true]
                  rw [V.dataL_iff] at hdi
                  exact ⟨⟨V.dataL_iff.2 fun u hu => hdi u (List.mem_of_mem_take hu), hdat⟩, V.dataL_iff.2 fun u hu => hdi u (List.mem_of_mem_drop hu)⟩
                · rw [headD_eq]; exact V.dataL_getD hdat 0
            refine ⟨⟨hz, hdat'⟩, (cur.toList.take (i * sz' + fo) ++ (a.eval x).cells.toList ++ cur.toList.drop (i * sz' + fo + n)).take (es.length * sz'), ?_, ?_⟩
            · have hlen2 : (cur.toList.take (i * sz' + fo) ++ (a.eval x).cells.toList ++ cur.toList.drop (i * sz' + fo + n)).length = cur.size := by
                rw [List.length_append, List.length_append, List.length_take, List.length_drop, Array.length_toList, Array.length_toList]; omega
              refine ⟨by rw [List.length_take, hlen2, List.length_set]; omega, .inr ⟨g', cap, _, ?_, Nat.zero_le _, setRow_heap w g' cur _ t' (0, 0) hg, ?_, h3, ?_, ?_⟩⟩
              · rw [List.length_set]; exact el'
              · rw [List.length_set]; exact h2
              · simp only [Obj.sz, List.size_toArray]; rw [hlen2]; exact h4
              · rw [List.length_set]; rfl
            · refine Flat.wr hf hrel hi' (hc.imp hrel) (by omega) (by omega) hok (fun j hj => ?_) (fun k hk hkb => ?_)
              · rw [getD_take (by omega)]; exact k1 j hj
              · rw [getD_take hkb, k2 k hk, hcur k hkb]
        | row t' sz' es =>
          obtain ⟨⟨hz, hd⟩, g', cur, el, hg, h4, h3, hf⟩ := hobj
          have hi' : i < es.length := hi
          have hfi := hf.1 i hi'
          simp only [Obj.elem] at hl
          have el' : loc id = .slice (some ⟨g', 0, none⟩) es.length es.length := el
          have e2' : blk (loc id) = some g := e2
          rw [el'] at e2'
          simp [blk] at e2'
          subst e2'
          have hmul : i * sz' + sz' ≤ es.length * sz' := by
            have : (i + 1) * sz' ≤ es.length * sz' := Nat.mul_le_mul_right _ hi'
            rw [Nat.add_mul] at this; omega
          have hdat : V.dataL us = true := by
            rcases hv with hv | hv
            · simp [isVar] at hv
            · exact hdc hv
          refine fin t' cur hg (by simp only [Obj.sz]; omega) (fun hrel => ?_)
          obtain ⟨k1, k2⟩ := hget cur.toList (i * sz' + fo) (by rw [Array.length_toList]; omega)
          have hdat' : V.dataL (es.set i (splice (es.getD i .any) fo us)) = true := by
            rw [V.dataL_iff] at hd ⊢
            intro v hv'
            rcases List.mem_or_eq_of_mem_set hv' with hv' | rfl
            · exact hd v hv'
            · have hdi := V.dataL_getD (V.dataL_iff.2 hd) i
              unfold splice
              split
              · rename_i ds hds
                rw [hds] at hdi
                simp only [V.data] at hdi ⊢
                rw [V.dataL_append, V.dataL_append]
                simp only [Bool.and_eq_true]
                rw [V.dataL_iff] at hdi
                exact ⟨⟨V.dataL_iff.2 fun u hu => hdi u (List.mem_of_mem_take hu), hdat⟩, V.dataL_iff.2 fun u hu => hdi u (List.mem_of_mem_drop hu)⟩
              · rw [headD_eq]; exact V.dataL_getD hdat 0
          refine ⟨⟨hz, hdat'⟩, g', _, by rw [List.length_set]; exact el', setRow_heap w g' cur _ t' (0, 0) hg, ?_, by rw [List.length_set]; exact h3, ?_⟩
          · rw [List.length_set, ← h4]
            simp only [Obj.sz, List.size_toArray]
            rw [List.length_append, List.length_append, List.length_take, List.length_drop, Array.length_toList, Array.length_toList]; omega
          · refine Flat.wr hf hrel hi' (hc.imp hrel) (by omega) (by omega) hok (fun j hj => ?_) (fun k hk hkb => ?_)
            · have := k1 j hj
              simpa [Array.getD_eq_getD_getElem?, List.getD_eq_getElem?_getD, Obj.sz] using this
            · have := k2 k hk
              simpa [Array.getD_eq_getD_getElem?, List.getD_eq_getElem?_getD, Obj.sz] using this
        | map ks vs => simp [Obj.len] at hi
      · exact h.elim
    · exact h.elim
  · exact h.elim
end
end Go.AM
