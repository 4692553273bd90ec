/- The abstract machine, part 13: contracts ('Spec'), calls ('CallS'), ordered regions ('evalR'), bodies ('Runs'). -/
import Derived.Test.YtmhnmookgbmmbaaAm12
set_option linter.unusedVariables false
set_option linter.unusedSimpArgs false
namespace Go.AM
open V (Le LeL)

/-- The blocks of objects. -/
def Owned (H : Heap) (loc : Nat → Value) (b : Nat) : Prop := ∃ id, (look H id).isSome = true ∧ blk (loc id) = some b

/-- A CONTRACT: called with values that read so, whatever the world, the function returns; what it returns and leaves meets 'post'. Objects in 'H' are handed over. -/
def Spec (P : Program) (f : FuncId) (args : List V) (H : Heap) (post : V → Heap → Prop) : Prop :=
  ∀ (w : World) (O : Nat → Prop) (xs : List Value) (loc : Nat → Value), SimAt w O (Owned H loc) H loc args xs w →
    Calls P f xs.toArray w (fun e w' => ∃ r H' x loc', post r H' ∧ e = .returned x ∧ SimAt w O (Owned H loc) H' loc' [r] [x] w')
/-- A function of data to data. -/
def Fn (P : Program) (f : FuncId) (args : List V) (r : V) : Prop := Spec P f args [] fun r' H' => r' = r ∧ H' = []
/-- A function of data to a list of its own. -/
def OwnPost (t : TypeId) (sz : Nat) (Q : List V → Prop) : V → Heap → Prop := fun r H' => ∃ es, Q es ∧ r = .own 0 ∧ H' = [(0, .lst t sz es)]

/-- There is such a function, and it has a text. -/
def hasBody (P : Program) (f : FuncId) : Prop := ∃ fn c, P.funcs[f]? = some fn ∧ fn.body = some c ∧ (fn.name == "runtime.NumGoroutine") = false

/-- A CALL OF A FUNCTION VALUE. -/
def CallS (P : Program) (fv : V) (vs : List V) (s : St) (K : V → St → Prop) : Prop :=
  ∀ w0 O M loc xs w fx ys, SimAt w0 O M s.heap loc s.slots xs w → Rel (env w O s.heap loc) fx fv → RelL (env w O s.heap loc) ys vs →
    ∃ f arr, fx = .func (.func f) #[] arr ∧ hasBody P f ∧
      Calls P f (ys.toArray ++ arr) w (fun e w' => ∃ v s' x loc', K v s' ∧ e = .returned x ∧ SimAt w0 O M s'.heap loc' s'.slots xs w' ∧ Rel (env w' O s'.heap loc') x v)
@[congr] theorem CallS_congr {P : Program} {fv fv' : V} {vs vs' : List V} {s s' : St} {K : V → St → Prop} (h1 : fv = fv') (h2 : vs = vs') (h3 : s = s') : CallS P fv vs s K = CallS P fv' vs' s' K := by
  subst h1; subst h2; subst h3; rfl

def stepR (P : Program) (o : Oper) (s : St) (K : V → St → Prop) : Prop := match o.op with
  | .call { callee := .value x, args, argTypes } => CallS P (ev s.slots x) (args.toList.map (ev s.slots)) s K
  | _ => opK P o s K

/-- AN ORDERED REGION. -/
def evalR (P : Program) (ops : Array Oper) : List Oper → St → (St → Prop) → Prop
  | [], s, K => K s
  | o :: rest, s, K => match o.guard with
    | none => stepR P o s fun v s' => evalR P ops rest (s'.put o.dst v) K
    | some (j, want) => match (ops[j]?).bind (·.dst) with
      | some d => match s.slots.getD d .any with
        | .sc (.bool b) => (b = want → stepR P o ⟨s.slots.set d (.sc (.bool want)), s.heap⟩ fun v s' => evalR P ops rest (s'.put o.dst v) K) ∧
            (b = (!want) → evalR P ops rest ((⟨s.slots.set d (.sc (.bool (!want))), s.heap⟩ : St).put o.dst (.sc undef)) K)
        | .sc (.tuple _) => evalR P ops rest (s.put o.dst (.sc undef)) K
        | _ => False
      | none => False

section
variable {P : Program} {w0 : World} {O M : Nat → Prop} {s : St} {loc : Nat → Value} {a : Act} {w : World} {o : Oper}

theorem put_sim (S : SimAt w0 O M s.heap loc s.slots a.tmps.toList w) {x : Value} {v : V} (hr : Rel (env w O s.heap loc) x v) (d : Option Tmp) :
    SimAt w0 O M (s.put d v).heap loc (s.put d v).slots (a.put d x).tmps.toList w ∧ (a.put d x).defers = a.defers := by
  cases d with
  | none => exact ⟨S, rfl⟩
  | some d =>
    refine ⟨?_, rfl⟩
    have := S.put d hr
    simpa [St.put, Act.put] using this

theorem run_callFunc {f : FuncId} (h : hasBody P f) (args : Array Value) (w : World) : (callFunc f args).run P w = .ok (.enter f args) w := by
  obtain ⟨fn, c, h1, h2, h3⟩ := h
  have h4 : fn.body.isNone = false := by rw [h2]; rfl
  have h5 : ¬ fn.name = "runtime.NumGoroutine" := by simpa using h3
  simp [callFunc, Sem.run_bind, h1, h2, h5]

theorem step_sound {K : V → St → Prop} (h : stepR P o s K) (hd : a.defers = []) (S : SimAt w0 O M s.heap loc s.slots a.tmps.toList w) {next : Act → World → Prop} {Q : Exit → Act → World → Prop}
    (hn : ∀ v s' loc' x w', K v s' → SimAt w0 O M s'.heap loc' s'.slots a.tmps.toList w' → Rel (env w' O s'.heap loc') x v → next (a.put o.dst x) w') : o.wp P a w next Q := by
  have other : opK P o s K → o.wp P a w next Q := fun h => (op_sound h S).wp (fun v s' x loc' w' h1 h2 h3 => hn v s' loc' x w' h1 h2 h3)
  unfold stepR at h
  split at h
  · rename_i x args argTypes hop
    obtain ⟨f, arr, hfx, hb, hc⟩ := h w0 O M loc a.tmps.toList w (a.eval x) (args.toList.map a.eval) S (ev_rel S.vals x) (by
      refine ⟨by simp, fun i hi => ?_⟩
      have hi' : i < args.toList.length := by simpa using hi
      rw [getD_map_lt hi', getD_map_lt hi']; exact ev_rel S.vals _)
    have hrun : (execOp a.eval o).run P w = .ok (.enter f ((args.toList.map a.eval).toArray ++ arr)) w := by
      unfold execOp
      simp only [hop, resolve, Sem.run_bind, hfx, Deferred.ofValue, Sem.run_pure, Result.andThen_ok, invoke]
      rw [run_callFunc hb]
      congr 2
      apply Array.ext'
      simp
    unfold Oper.wp
    rw [hrun]
    refine hc.mono ?_
    rintro e w' ⟨v, s', y, loc', hK, rfl, S', hr⟩
    exact hn v s' loc' y w' hK S' hr
  · exact other h

theorem yielded_tuple {ops : Array Oper} {j d : Nat} {a : Act} {arr : Array Value} {E : Env} (hdst : (ops[j]?).bind (·.dst) = some d) (h : Rel E (a.tmps.toList.getD d undef) (.sc (.tuple arr))) : yielded ops a.tmps j = none := by
  have e := Rel.sc_iff.1 h
  rw [List.getD_eq_getElem?_getD, Array.getElem?_toList] at e
  unfold yielded
  rw [hdst]
  show (match a.tmps[d]? with | some (.bool b) => some b | _ => none) = none
  cases hq : a.tmps[d]? with
  | none => rfl
  | some y =>
    rw [hq] at e
    have : y = .tuple arr := e
    rw [this]
theorem evalR_sound {ops : Array Oper} : ∀ {l : List Oper} {s : St} {K : St → Prop} {loc : Nat → Value} {a : Act} {w : World} {Q : Exit → Act → World → Prop}, evalR P ops l s K → a.defers = [] → SimAt w0 O M s.heap loc s.slots a.tmps.toList w →
    (∀ s' loc' a' w', K s' → a'.defers = [] → SimAt w0 O M s'.heap loc' s'.slots a'.tmps.toList w' → Q .normal a' w') → wpList P ops Q l a w
  | [], s, K, loc, a, w, Q, h, hd, S, hQ => hQ s loc a w h hd S
  | o :: rest, s, K, loc, a, w, Q, h, hd, S, hQ => by
    have go : ∀ {s : St} {loc : Nat → Value}, SimAt w0 O M s.heap loc s.slots a.tmps.toList w → stepR P o s (fun v s' => evalR P ops rest (s'.put o.dst v) K) → o.wp P a w (wpList P ops Q rest) Q := by
      intro s loc S h
      refine step_sound h hd S fun v s' loc' x w' hK S' hr => ?_
      obtain ⟨S'', hd'⟩ := put_sim S' hr o.dst
      exact evalR_sound hK (hd'.trans hd) S'' hQ
    unfold evalR at h
    unfold wpList
    split at h
    · rename_i hg
      rw [if_pos (by simp [Region.wanted, hg])]
      exact .inl (go S h)
    · rename_i j want hg
      split at h
      · rename_i d hdst
        split at h
        · rename_i b hb
          have hx : a.tmps[d]? = some (.bool b) := by
            have := S.vals.getD d
            rw [hb] at this
            have e := Rel.sc_iff.1 this
            rw [List.getD_eq_getElem?_getD, Array.getElem?_toList] at e
            cases hq : a.tmps[d]? with
            | none => rw [hq] at e; simp [undef] at e
            | some y => rw [hq] at e; simp at e; rw [e]
          have hy : yielded ops a.tmps j = some b := by simp [yielded, hdst, hx]
          have hset : SimAt w0 O M s.heap loc (s.slots.set d (.sc (.bool b))) a.tmps.toList w := by
            have := S.put d (Rel.sc (.bool b))
            have e : a.tmps.toList.set d (.bool b) = a.tmps.toList := by
              apply List.ext_getElem?
              intro i
              rw [List.getElem?_set]
              by_cases hi : d = i
              · subst hi
                have : d < a.tmps.toList.length := by rw [Array.length_toList]; exact (Array.getElem?_eq_some_iff.1 hx).1
                rw [if_pos rfl, if_pos this, Array.getElem?_toList, hx]
              · rw [if_neg hi]
            rwa [e] at this
          by_cases hw : b = want
          · rw [if_pos (by simp [Region.wanted, hg, hy, hw])]
            subst hw
            exact .inl (go (s := ⟨s.slots.set d (.sc (.bool b)), s.heap⟩) hset (h.1 rfl))
          · have hw' : b = (!want) := by cases b <;> cases want <;> simp_all
            rw [if_neg (by simp [Region.wanted, hg, hy, hw])]
            have hset' : SimAt w0 O M s.heap loc (s.slots.set d (.sc (.bool (!want)))) a.tmps.toList w := by rw [← hw']; exact hset
            obtain ⟨S'', hd'⟩ := put_sim (s := ⟨s.slots.set d (.sc (.bool (!want))), s.heap⟩) hset' (Rel.sc undef) o.dst
            exact evalR_sound (h.2 hw') (hd'.trans hd) S'' hQ
        · rename_i arr hb
          have hy : yielded ops a.tmps j = none := yielded_tuple hdst (by rw [← hb]; exact S.vals.getD d)
          rw [if_neg (by simp [Region.wanted, hg, hy])]
          obtain ⟨S'', hd'⟩ := put_sim (s := s) S (Rel.sc undef) o.dst
          exact evalR_sound h (hd'.trans hd) S'' hQ
        · exact h.elim
      · exact h.elim
end

/-- A BODY FROM HERE ON, and what is around it: the function returns, and 'post' holds. -/
def Runs (P : Program) (f : FuncId) (post : V → Heap → Prop) (todo : List Item) (s : St) : Prop :=
  ∀ (w0 : World) (O M : Nat → Prop) (loc : Nat → Value) (a : Act) (w : World) (b : Frame) (cs : List Frame), a.defers = [] → SimAt w0 O M s.heap loc s.slots a.tmps.toList w → b.fn = f → b.kind = .normal →
    ∃ x w' fr, (∃ r H' loc', post r H' ∧ SimAt w0 O M H' loc' [r] [x] w') ∧ Steps P (lone (b.at a todo) cs w) (lone fr cs w') ∧ fr.fn = f ∧ fr.leaving P w' (.returned x)

section
variable {P : Program} {f : FuncId} {post : V → Heap → Prop} {k : List Item} {s : St}

theorem Runs.step {todo todo' : List Item} (hs : ∀ (b : Frame) (a : Act) (cs : List Frame) (w : World), step P (lone (b.at a todo) cs w) = .next (lone (b.at a todo') cs w)) (h : Runs P f post todo' s) : Runs P f post todo s := by
  intro w0 O M loc a w b cs hd S hb hk
  obtain ⟨x, w', fr, h1, h2, h3⟩ := h w0 O M loc a w b cs hd S hb hk
  exact ⟨x, w', fr, h1, .head (hs b a cs w) h2, h3⟩
theorem Runs.weaken {todo : List Item} {s' : St} (hle : s.Le s') (h : Runs P f post todo s') : Runs P f post todo s := by
  intro w0 O M loc a w b cs hd S hb hk
  obtain ⟨loc', S'⟩ := hle w0 O M loc a.tmps.toList w S
  exact h w0 O M loc' a w b cs hd S' hb hk
theorem Runs.seq {x y : Code} (h : Runs P f post (.code x :: .code y :: k) s) : Runs P f post (.code (.seq x y) :: k) s := h.step fun _ _ _ _ => step_seq
theorem Runs.skip (h : Runs P f post k s) : Runs P f post (.code .skip :: k) s := h.step fun _ _ _ _ => step_skip
theorem Runs.label {l : Nat} (h : Runs P f post k s) : Runs P f post (.code (.label l) :: k) s := h.step fun _ _ _ _ => step_label
theorem Runs.block {id : Nat} {c : Code} (h : Runs P f post (.code c :: .inBlock id :: k) s) : Runs P f post (.code (.block id c) :: k) s := h.step fun _ _ _ _ => step_block
theorem Runs.inBlock {id : Nat} (h : Runs P f post k s) : Runs P f post (.inBlock id :: k) s := h.step fun _ _ _ _ => step_inBlock
theorem Runs.loop {c : Code} (h : Runs P f post (.code c :: .inLoop c :: k) s) : Runs P f post (.code (.loop c) :: k) s := h.step fun _ _ _ _ => step_loop
theorem Runs.inLoop {c : Code} (h : Runs P f post (.code c :: .inLoop c :: k) s) : Runs P f post (.inLoop c :: k) s := h.step fun _ _ _ _ => step_inLoop
theorem Runs.scope {c : Code} (h : Runs P f post (.code c :: .inScope c :: k) s) : Runs P f post (.code (.scope c) :: k) s := h.step fun _ _ _ _ => step_scope
theorem Runs.inScope {c : Code} (h : Runs P f post k s) : Runs P f post (.inScope c :: k) s := h.step fun _ _ _ _ => step_inScope
theorem Runs.exit {id : Nat} {k' : List Item} (he : exitTo id k = some k') (h : Runs P f post k' s) : Runs P f post (.code (.exit id) :: k) s := h.step fun _ _ _ _ => step_exit he
theorem Runs.goto {l : Nat} {k' : List Item} (he : gotoIn l k = some k') (h : Runs P f post k' s) : Runs P f post (.code (.goto l) :: k) s := h.step fun _ _ _ _ => step_goto he
theorem Runs.cond {c : Operand} {x y : Code} {t : Bool} (hc : ev s.slots c = .sc (.bool t)) (h1 : t = true → Runs P f post (.code x :: k) s) (h2 : t = false → Runs P f post (.code y :: k) s) :
    Runs P f post (.code (.cond c x y) :: k) s := by
  intro w0 O M loc a w b cs hd S hb hk
  have hr := ev_rel S.vals c
  rw [hc] at hr
  have he := Rel.sc_iff.1 hr
  cases t with
  | true =>
    obtain ⟨x, w', fr, q1, q2, q3⟩ := h1 rfl w0 O M loc a w b cs hd S hb hk
    exact ⟨x, w', fr, q1, .head (step_cond he) (by simpa using q2), q3⟩
  | false =>
    obtain ⟨x, w', fr, q1, q2, q3⟩ := h2 rfl w0 O M loc a w b cs hd S hb hk
    exact ⟨x, w', fr, q1, .head (step_cond he) (by simpa using q2), q3⟩

/-- From a region's 'wp' to the rest. -/
theorem Runs.of_wp {c : Code} (h : ∀ (w0 : World) (O M : Nat → Prop) (loc : Nat → Value) (a : Act) (w : World), a.defers = [] → SimAt w0 O M s.heap loc s.slots a.tmps.toList w →
    c.wp P (fun e a' w' => e = .normal ∧ ∃ s' loc', Runs P f post k s' ∧ a'.defers = [] ∧ SimAt w0 O M s'.heap loc' s'.slots a'.tmps.toList w') a w) : Runs P f post (.code c :: k) s := by
  intro w0 O M loc a w b cs hd S hb hk
  obtain ⟨e, a', w', ⟨rfl, s', loc', hR, hd', S'⟩, harr⟩ := h w0 O M loc a w hd S b k cs
  obtain ⟨x, w'', fr, q1, q2, q3⟩ := hR w0 O M loc' a' w' b cs hd' S' hb hk
  exact ⟨x, w'', fr, q1, Steps.trans harr q2, q3⟩
theorem Runs.region {id : Nat} {l : List Oper} (h : evalR P l.toArray l s (Runs P f post k)) : Runs P f post (.code (.region id l.toArray false) :: k) s :=
  Runs.of_wp fun w0 O M loc a w hd S => wp_region_lit (evalR_sound h hd S fun s' loc' a' w' hR hd' S' => ⟨rfl, s', loc', hR, hd', S'⟩)

/-- The results of a function. -/
def resK (P : Program) (s : St) : List ResultVar → (List V → Prop) → Prop
  | [], K => K []
  | .tmp t :: rs, K => resK P s rs fun vs => K (s.slots.getD t .any :: vs)
  | .cell t ty :: rs, K => valK P (.load ty (.tmp t)) (ev s.slots) s.heap fun v => resK P s rs fun vs => K (v :: vs)
def pack : List V → V
  | [v] => v
  | vs => .tup vs

def resOne (tmps : Array Value) : ResultVar → Sem Value
  | .tmp t => pure (tmps.getD t undef)
  | .cell a t => do loadVar t (← asAddr (tmps.getD a undef))
theorem results_eq (fn : Func) (tmps : Array Value) : results fn tmps = (do let vs ← fn.results.mapM (resOne tmps); pure (if h : vs.size = 1 then vs[0] else .tuple vs)) := by
  unfold results
  congr 1

theorem res_sound {w : World} {O : Nat → Prop} {H : Heap} {loc : Nat → Value} {tmps : Array Value} (hv : RelL (env w O s.heap loc) tmps.toList s.slots) (hobj : ∀ id o, look s.heap id = some o → ObjOK (env w O s.heap loc) id o) :
    ∀ (rs : List ResultVar) (K : List V → Prop), resK P s rs K → ∃ xs vs, (rs.mapM (resOne tmps)).run P w = .ok xs w ∧ RelL (env w O s.heap loc) xs vs ∧ K vs
  | [], K, h => ⟨[], [], rfl, .nil _, h⟩
  | .tmp t :: rs, K, h => by
    obtain ⟨xs, vs, h1, h2, h3⟩ := res_sound (H := H) hv hobj rs _ h
    refine ⟨tmps.getD t undef :: xs, _, ?_, .cons (rel_getD hv t) h2, h3⟩
    rw [List.mapM_cons, Sem.run_bind]
    simp only [resOne, Sem.run_pure, Result.andThen_ok]
    rw [Sem.run_bind, h1]
    rfl
  | .cell t ty :: rs, K, h => by
    obtain ⟨x, v, k1, k2, k3⟩ := val_sound (o := ⟨none, .load ty (.tmp t), 0, "", #[], none⟩) h rfl (ρ := fun | .tmp t => tmps.getD t undef | .const v => v | .global g => .pointer (some ⟨g, 0, none⟩) | .func f => .func (.func f) #[] #[]) (fun y => by
      have := ev_rel (a := ⟨tmps, []⟩) hv y
      cases y <;> exact this) hobj
    obtain ⟨xs, vs, h1, h2, h3⟩ := res_sound (H := H) hv hobj rs _ k3
    refine ⟨x :: xs, _, ?_, .cons k2 h2, h3⟩
    have hl : ∃ ad, tmps.getD t undef = .pointer (some ad) ∧ (loadVar ty ad).run P w = .ok x w := by
      unfold execOp at k1
      simp only [Sem.run_bind, Instr.loadAt] at k1
      generalize tmps.getD t undef = y at k1
      cases y with
      | pointer o => cases o with
        | some ad =>
          refine ⟨ad, rfl, ?_⟩
          simp only [Instr.sureAddr, Sem.run_pure, Result.andThen_ok] at k1
          cases hq : (loadVar ty ad).run P w with
          | ok z w'' => rw [hq] at k1; simp at k1; obtain ⟨rfl, rfl⟩ := k1; rfl
          | halt z w'' => rw [hq] at k1; simp at k1
        | none => simp [Instr.sureAddr] at k1
      | _ => simp [Instr.sureAddr] at k1
    obtain ⟨ad, e1, e2⟩ := hl
    have hone : (resOne tmps (.cell t ty)).run P w = .ok x w := by
      unfold resOne
      rw [Sem.run_bind, e1]
      simpa [asAddr] using e2
    rw [List.mapM_cons, Sem.run_bind]
    simp only [hone, Result.andThen_ok]
    rw [Sem.run_bind, h1]
    rfl

def packX : List Value → Value
  | [x] => x
  | xs => .tuple xs.toArray
theorem results_run {w : World} {fn : Func} {tmps : Array Value} {xs : List Value}
    (h : (fn.results.toList.mapM (resOne tmps)).run P w = .ok xs w) :
    (results fn tmps).run P w = .ok (packX xs) w := by
  rw [results_eq]
  rw [Sem.run_bind, Array.mapM_eq_mapM_toList, Sem.run_map, h]
  simp only [Result.andThen_ok, Sem.run_pure]
  congr 1
  match xs with
  | [] => rfl
  | [x] => rfl
  | x :: y :: xs => simp [packX]

/-- THE RETURN. 'hp': what is made of the values and objects at the end. -/
theorem Runs.ret {fn : Func} (hf : P.funcs[f]? = some fn) (h : resK P s fn.results.toList fun vs => ∃ r H', post r H' ∧ ∀ w0 O M loc x w, SimAt w0 O M s.heap loc [pack vs] [x] w → ∃ loc', SimAt w0 O M H' loc' [r] [x] w) :
    Runs P f post (.code .ret :: k) s := by
  intro w0 O M loc a w b cs hd S hb hk
  obtain ⟨xs, vs, h1, h2, r, H', hp, hsim⟩ := res_sound (H := s.heap) S.vals S.objs _ _ h
  have hrel : Rel (env w O s.heap loc) (packX xs) (pack vs) := by
    cases vs with
    | nil =>
      have : xs = [] := List.eq_nil_of_length_eq_zero (by rw [h2.1]; rfl)
      subst this
      exact Rel.tup_iff.2 ⟨#[], rfl, .nil _⟩
    | cons v vs' =>
      cases vs' with
      | nil =>
        obtain ⟨x, rfl⟩ := List.length_eq_one_iff.1 (show xs.length = 1 by rw [h2.1]; rfl)
        exact h2.uncons.1
      | cons v2 vs'' =>
        match xs, h2 with
        | x :: y :: xs', h2 => exact Rel.tup_iff.2 ⟨_, rfl, h2⟩
        | [x], h2 => exact absurd h2.1 (by simp)
        | [], h2 => exact absurd h2.1 (by simp)
  obtain ⟨loc', S'⟩ := hsim w0 O M loc _ w (S.vals' (RelL.cons hrel (.nil _)))
  refine ⟨_, w, { b.at a (.code .ret :: k) with mode := .returning }, ⟨r, H', loc', hp, S'⟩, .one step_ret, hb, rfl, hd, hk, fn, by rw [← hf, ← hb]; rfl, ?_⟩
  exact results_run h1

/-- The final state: all is dropped but data. -/
theorem drop_data {v r : V} (hle : Le v r) (hd : r.data = true) : ∀ w0 O M loc x w, SimAt w0 O M s.heap loc [v] [x] w → ∃ loc', SimAt w0 O M [] loc' [r] [x] w := by
  intro w0 O M loc x w S
  refine ⟨loc, S.clean (.cons hle .nil) ?_ trivial⟩
  simp [V.usesL, V.uses_data _ _ hd]
theorem Runs.ret_data {fn : Func} (hf : P.funcs[f]? = some fn) (h : resK P s fn.results.toList fun vs => ∃ r, Le (pack vs) r ∧ r.data = true ∧ post r []) : Runs P f post (.code .ret :: k) s := by
  refine Runs.ret hf ?_
  revert h
  have mono : ∀ (rs : List ResultVar) (K K' : List V → Prop), (∀ vs, K vs → K' vs) → resK P s rs K → resK P s rs K' := by
    intro rs
    induction rs with
    | nil => intro K K' h hk; exact h _ hk
    | cons r rs ih =>
      intro K K' h hk
      cases r with
      | tmp t => exact ih _ _ (fun vs => h _) hk
      | cell t ty =>
        simp only [resK, valK] at hk ⊢
        revert hk
        split
        · split
          · rintro ⟨h1, h2, h3⟩; exact ⟨h1, h2, ih _ _ (fun vs => h _) h3⟩
          · split
            · rintro ⟨h1, h2, h3, h4⟩; exact ⟨h1, h2, h3, ih _ _ (fun vs => h _) h4⟩
            · exact fun h => h
          · exact fun h => h
        · exact fun h => h
  refine mono _ _ _ ?_
  rintro vs ⟨r, h1, h2, h3⟩
  exact ⟨r, [], h3, drop_data h1 h2⟩

/-- A list of the call's own is handed back. -/
theorem own_out {d : Nat} {t : TypeId} {sz : Nat} {es : List V} (hl : look s.heap d = some (.lst t sz es)) :
    ∀ w0 O M loc x w, SimAt w0 O M s.heap loc [.own d] [x] w → ∃ loc', SimAt w0 O M [(0, .lst t sz es)] loc' [.own 0] [x] w := by
  intro w0 O M loc x w S
  have S1 : SimAt w0 O M [(d, .lst t sz es)] loc [.own d] [x] w := S.clean (.refl _) (by simp [V.usesL, V.uses, look]) ⟨⟨hl, trivial⟩, trivial⟩
  refine ⟨fun _ => loc d, ?_, ?_, ?_, ?_, S1.ext, S1.O_lt⟩
  · have hr := (S1.vals.uncons).1
    obtain ⟨e, o, h1, h2⟩ := hr.own_inv
    refine RelL.cons ?_ (.nil _)
    have hob := S1.objs d _ (look_eq d _ _)
    have hv : ∃ a n c, loc d = .slice a n c := by rcases blk_own hob with ⟨g, c, e, _⟩ | ⟨e, _⟩ <;> exact ⟨_, _, _, e⟩
    have := Rel.own (E := env w O [(0, .lst t sz es)] (fun _ => loc d)) 0 (.lst t sz es) (look_eq 0 (.lst t sz es) []) rfl hv
    rw [e]; exact this
  · intro id o ho
    obtain ⟨rfl, rfl⟩ := look_one ho
    obtain ⟨hz, xs, q, hf⟩ := S1.objs d _ (look_eq d _ _)
    have hF : ∀ b, (env w O [(d, .lst t sz es)] loc).F b → (env w O [(0, .lst t sz es)] (fun _ => loc d)).F b ∧ (env w O [(0, .lst t sz es)] (fun _ => loc d)).w.heap[b]? = (env w O [(d, .lst t sz es)] loc).w.heap[b]? :=
      fun b hb => ⟨⟨hb.1, hb.2.1, fun id hid => hb.2.2 d (by simp [look])⟩, rfl⟩
    exact ⟨hz, xs, q, hf.1, fun i j hi hj => (hf.2 i j hi hj).data_mono hF (V.data_getD_cells hz.2 i j)⟩
  · intro id id' b h1 h2 _ _
    rw [look_one' h1, look_one' h2]
  · intro id b _ h2
    exact S1.own d b (by simp [look]) h2
theorem Runs.ret_own {fn : Func} (hf : P.funcs[f]? = some fn) {j : Tmp} (hr : fn.results = #[.tmp j]) {d : Nat} (hs : s.slots.getD j .any = .own d) {t : TypeId} {sz : Nat} {es : List V} (hl : look s.heap d = some (.lst t sz es)) {Q : List V → Prop} (hq : Q es) :
    Runs P f (OwnPost t sz Q) (.code .ret :: k) s := by
  refine Runs.ret hf ?_
  rw [hr]
  refine ⟨.own 0, [(0, .lst t sz es)], ⟨es, hq, rfl, rfl⟩, ?_⟩
  rw [hs]
  exact own_out hl
end

theorem spec_of_runs {P : Program} {f : FuncId} {fn : Func} {c : Code} {args : List V} {H : Heap} {post : V → Heap → Prop} (hf : P.funcs[f]? = some fn) (hb : fn.body = some c)
    (h : Runs P f post [.code c] ⟨args ++ List.replicate (fn.ntmps - args.length) .any, H⟩) : Spec P f args H post := by
  intro w O xs loc S cs
  have hl : xs.length = args.length := S.vals.1
  let b : Frame := { (default : Frame) with fn := f, kind := .normal }
  have henter : Frame.enter P f xs.toArray .normal = b.at { tmps := xs.toArray ++ Array.replicate (fn.ntmps - xs.length) undef, defers := [] } [.code c] := by
    simp [Frame.enter, Frame.at, hf, hb, b]
  have S' : SimAt w O (Owned H loc) H loc (args ++ List.replicate (fn.ntmps - args.length) .any) (xs.toArray ++ Array.replicate (fn.ntmps - xs.length) undef).toList w := by
    refine S.vals' ?_
    rw [Array.toList_append]
    refine S.vals.append ⟨by simp [hl], fun i hi => ?_⟩
    have : (List.replicate (fn.ntmps - args.length) V.any).getD i .any = .any := by simp [List.getD_eq_getElem?_getD, List.getElem?_replicate]; split <;> rfl
    rw [this]; exact .any _
  obtain ⟨x, w', fr, ⟨r, H', loc', hp, S''⟩, h2, h3, h4⟩ := h w O (Owned H loc) loc ⟨xs.toArray ++ Array.replicate (fn.ntmps - xs.length) undef, []⟩ w b cs rfl S' rfl rfl
  rw [← henter] at h2
  exact ⟨.returned x, w', fr, ⟨r, H', x, loc', hp, rfl, S''⟩, h2, h3, h4⟩
end Go.AM
