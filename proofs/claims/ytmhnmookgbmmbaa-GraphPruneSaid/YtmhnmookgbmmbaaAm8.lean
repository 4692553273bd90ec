/- The abstract machine, part 8: objects that are replaced, frozen; operations that make or write objects ('opK'). -/
import Derived.Test.YtmhnmookgbmmbaaAm7
import Derived.Great.BuildSlice
set_option linter.unusedVariables false
set_option linter.unusedSimpArgs false
namespace Go.AM

def Obj.kill (d : Nat) : Obj → Obj
  | .var t v => .var t (v.kill d)
  | o => o
/-- Object 'd' becomes 'o'; its views elsewhere are forgotten. -/
def updK (d : Nat) (o : Obj) : Heap → Heap
  | [] => []
  | (k, p) :: H => (if k = d then (d, o) else (k, p.kill d)) :: updK d o H
theorem look_updK (d : Nat) (o : Obj) (H : Heap) (k : Nat) : look (updK d o H) k = if k = d then (look H k).map (fun _ => o) else (look H k).map (Obj.kill d) := by
  induction H with
  | nil => simp [updK, look]
  | cons e H ih =>
    obtain ⟨j, p⟩ := e
    by_cases h : j = d
    · subst h
      by_cases hk : j = k
      · subst hk; simp [updK, look]
      · have hk' : ¬ k = j := fun e => hk e.symm
        simp only [updK, if_true, look]
        rw [if_neg hk, if_neg hk, ih, if_neg hk']
    · by_cases hk : j = k
      · subst hk; simp [updK, look, h]
      · simp only [updK, if_neg h, look]
        rw [if_neg hk, if_neg hk, ih]
theorem Obj.kill_alike (d : Nat) (o : Obj) : (o.kill d).alike o := by cases o <;> simp [Obj.kill, Obj.alike]

theorem getD_mem {l : List V} {v : V} (h : v ∈ l) : ∃ i, i < l.length ∧ l.getD i .any = v := by
  obtain ⟨i, hi, rfl⟩ := List.mem_iff_getElem.1 h
  exact ⟨i, hi, by rw [List.getD_eq_getElem?_getD, List.getElem?_eq_getElem hi]; rfl⟩
/-- Where there are no objects, all is data. -/
theorem rel_data {E : Env} (hE : ∀ id, E.obj id = none) {x : Value} {v : V} (h : Rel E x v) : v.data = true := by
  induction h with
  | sc x => rfl
  | any x => rfl
  | junk x h => rfl
  | agg arr cs h _ ih => simp only [V.data]; rw [V.dataL_iff]; intro v hv; obtain ⟨i, hi, rfl⟩ := getD_mem hv; exact ih i hi
  | tup arr cs h _ ih => simp only [V.data]; rw [V.dataL_iff]; intro v hv; obtain ⟨i, hi, rfl⟩ := getD_mem hv; exact ih i hi
  | nil full a c h1 h2 => rfl
  | sl full es g off c sz f a1 a2 a3 a4 a5 a6 a7 a8 a9 ih => exact a1
  | pt v g off f a1 a2 a3 a4 ih => exact a1
  | fn f arr caps a1 a2 ih => simp only [V.data]; rw [V.dataL_iff]; intro v hv; obtain ⟨i, hi, rfl⟩ := getD_mem hv; exact ih i hi
  | own id o a1 a2 a3 => rw [hE] at a1; cases a1
  | ptr id i fo o g a1 a2 => rw [hE] at a1; cases a1
  | vw id off len cap o g a1 a2 a3 a4 => rw [hE] at a1; cases a1
  | mp id o a1 a2 a3 => rw [hE] at a1; cases a1
  | dnil => rfl
  | dmp ks vs g arr clk a1 a2 a3 a4 a5 a6 a7 ih => exact a1

section
variable {w0 : World} {O M : Nat → Prop} {H : Heap} {loc : Nat → Value} {vs : List V} {xs : List Value} {w : World}

/-- The other objects while 'd' is forgotten. -/
theorem ObjOK.kill {E E' : Env} {id d : Nat} {o : Obj} (h : ObjOK E id o) (hl : E'.loc id = E.loc id) (hb : ∀ b, blk (E.loc id) = some b → E'.w.heap[b]? = E.w.heap[b]?)
    (k : ∀ x v, Rel E x v → Rel E' x (v.kill d)) : ObjOK E' id (o.kill d) := by
  have kd : ∀ x v, v.data = true → Rel E x v → Rel E' x v := fun x v hv hr => by have := k x v hr; rwa [V.kill_data d v hv] at this
  cases o with
  | var t v =>
    obtain ⟨g, arr, e, hg, hr⟩ := h
    refine ⟨g, arr, hl.trans e, by rw [hb g (by rw [e]; rfl)]; exact hg, ?_⟩
    rw [V.cells_kill]
    exact ⟨by rw [V.killL_length]; exact hr.1, fun i hi => by rw [V.killL_getD]; exact k _ _ (hr.2 i (by rwa [V.killL_length] at hi))⟩
  | lst t sz es =>
    obtain ⟨hz, xs, ho, hf⟩ := h
    refine ⟨hz, xs, ?_, hf.1, fun i j hi hj => kd _ _ (V.data_getD_cells hz.2 i j) (hf.2 i j hi hj)⟩
    rw [hl]
    refine ⟨ho.1, ?_⟩
    rcases ho.2 with hn | ⟨g, cap, cur, e, h1, hg, h2⟩
    · exact .inl hn
    · exact .inr ⟨g, cap, cur, e, h1, by rw [hb g (by rw [e]; rfl)]; exact hg, h2⟩
  | row t sz es =>
    obtain ⟨hz, g, arr, e, hg, h1, h2, hf⟩ := h
    exact ⟨hz, g, arr, hl.trans e, by rw [hb g (by rw [e]; rfl)]; exact hg, h1, h2, hf.1, fun i j hi hj => kd _ _ (V.data_getD_cells hz.2 i j) (hf.2 i j hi hj)⟩
  | map ks vs =>
    obtain ⟨g, arr, clk, e, hg, h1, h2, h3, h4⟩ := h
    exact ⟨g, arr, clk, hl.trans e, by rw [hb g (by rw [e]; rfl)]; exact hg, h1, h2, h3, fun i hi => kd _ _ (V.dataL_getD h3 i) (h4 i hi)⟩

/-- An object is replaced by another of another place: its views are forgotten. -/
theorem SimAt.renew (h : SimAt w0 O M H loc vs xs w) (d : Nat) (o o' : Obj) (ho : look H d = some o) {w' : World} (hw : Ext w (fun b => blk (loc d) = some b) w') (v0 : Value)
    (hb : ∀ b, blk v0 = some b → w.heap.size ≤ b ∨ blk (loc d) = some b)
    (hnew : (∀ x v, v.data = true → Rel (env w O H loc) x v → Rel (env w' O (updK d o' H) (fun k => if k = d then v0 else loc k)) x v) →
      ObjOK (env w' O (updK d o' H) (fun k => if k = d then v0 else loc k)) d o') :
    SimAt w0 O M (updK d o' H) (fun k => if k = d then v0 else loc k) (V.killL d vs) xs w' ∧
      (∀ x v, Rel (env w O H loc) x v → Rel (env w' O (updK d o' H) (fun k => if k = d then v0 else loc k)) x (v.kill d)) := by
  have hds : (look H d).isSome = true := by simp [ho]
  have hs : ∀ id, (look (updK d o' H) id).isSome = (look H id).isSome := by
    intro id; rw [look_updK]; by_cases hk : id = d <;> simp [hk]
  have hF : ∀ b, (env w O H loc).F b → (env w' O (updK d o' H) (fun k => if k = d then v0 else loc k)).F b ∧ w'.heap[b]? = w.heap[b]? := by
    intro b hb'
    refine ⟨⟨Nat.lt_of_lt_of_le hb'.1 hw.size, hb'.2.1, fun id hid he => ?_⟩, hw.block b hb'.1 (hb'.2.2 d hds)⟩
    rw [hs] at hid
    replace he : blk (if id = d then v0 else loc id) = some b := he
    by_cases hk : id = d
    · subst hk
      rw [if_pos rfl] at he
      rcases hb b he with h1 | h1
      · have h2 : b < w.heap.size := hb'.1
        omega
      · exact hb'.2.2 id hds h1
    · rw [if_neg hk] at he
      exact hb'.2.2 id hid he
  have hrel : ∀ x v, Rel (env w O H loc) x v → Rel (env w' O (updK d o' H) (fun k => if k = d then v0 else loc k)) x (v.kill d) := by
    intro x v hr
    refine Rel.kill (E := env w O H loc) (E' := env w' O (updK d o' H) (fun k => if k = d then v0 else loc k)) d hF ?_ hr
    intro id p hk hp
    have hp' : look H id = some p := hp
    refine ⟨p.kill d, ?_, p.kill_alike d, ?_⟩
    · show look (updK d o' H) id = _
      rw [look_updK, if_neg hk, hp']; rfl
    · show (if id = d then v0 else loc id) = loc id
      rw [if_neg hk]
  refine ⟨⟨?_, ?_, ?_, ?_, ?_, h.O_lt⟩, hrel⟩
  · exact ⟨by rw [V.killL_length]; exact h.vals.1, fun i hi => by rw [V.killL_getD]; exact hrel _ _ (h.vals.2 i (by rwa [V.killL_length] at hi))⟩
  · intro id p hp
    rw [look_updK] at hp
    by_cases hk : id = d
    · subst hk; rw [if_pos rfl, ho] at hp; cases hp
      exact hnew (fun x v hv hr => by have := hrel x v hr; rwa [V.kill_data _ v hv] at this)
    · rw [if_neg hk] at hp
      cases hq : look H id with
      | none => rw [hq] at hp; cases hp
      | some q =>
        rw [hq] at hp
        cases hp
        refine (h.objs id q hq).kill ?_ (fun b hb' => hw.block b (h.lt (by simp [hq]) hb') ?_) hrel
        · show (if id = d then v0 else loc id) = loc id
          rw [if_neg hk]
        · intro e
          exact hk (h.dist id d b (by simp [hq]) hds hb' e)
  · intro id id' b h1 h2 h3 h4
    rw [hs] at h1 h2
    replace h3 : blk (if id = d then v0 else loc id) = some b := h3
    replace h4 : blk (if id' = d then v0 else loc id') = some b := h4
    by_cases hk : id = d
    · by_cases hk' : id' = d
      · rw [hk, hk']
      · exfalso
        rw [if_pos hk] at h3
        rw [if_neg hk'] at h4
        rcases hb b h3 with e | e
        · have := h.lt h2 h4; omega
        · exact hk' (h.dist id' d b h2 hds h4 e)
    · rw [if_neg hk] at h3
      by_cases hk' : id' = d
      · exfalso
        rw [if_pos hk'] at h4
        rcases hb b h4 with e | e
        · have := h.lt h1 h3; omega
        · exact hk (h.dist id d b h1 hds h3 e)
      · rw [if_neg hk'] at h4
        exact h.dist id id' b h1 h2 h3 h4
  · intro id b h1 h2
    rw [hs] at h1
    replace h2 : blk (if id = d then v0 else loc id) = some b := h2
    by_cases hk : id = d
    · rw [if_pos hk] at h2
      rcases hb b h2 with e | e
      · exact ⟨fun hO => by have := h.O_lt b hO; have := h.ext.size; omega, .inl (Nat.le_trans h.ext.size e)⟩
      · exact h.own d b hds e
    · rw [if_neg hk] at h2; exact h.own id b h1 h2
  · refine h.ext.trans hw ?_
    intro b hb' hlt
    exact (h.own d b hds hb').2.resolve_left (by omega)

/-- An object is forgotten; all its views become data 'y', which its place now holds. -/
def frzH (d : Nat) (y z : V) : Heap → Heap
  | [] => []
  | (k, p) :: H => if k = d then frzH d y z H else (k, match p with | .var t v => .var t (V.frz d y z v) | q => q) :: frzH d y z H
theorem look_frzH (d : Nat) (y z : V) (H : Heap) (k : Nat) : look (frzH d y z H) k = if k = d then none else (look H k).map (fun p => match p with | .var t v => .var t (V.frz d y z v) | q => q) := by
  induction H with
  | nil => simp [frzH, look]
  | cons e H ih =>
    obtain ⟨j, p⟩ := e
    by_cases h : j = d
    · subst h
      by_cases hk : k = j
      · subst hk; simp [frzH, ih]
      · have hk' : ¬ j = k := fun e => hk e.symm
        simp only [frzH, if_true, look]
        rw [ih, if_neg hk, if_neg hk, if_neg hk']
    · by_cases hk : j = k
      · subst hk; simp [frzH, look, h]
      · simp only [frzH, if_neg h, look]
        rw [if_neg hk, if_neg hk, ih]

theorem SimAt.freeze (h : SimAt w0 O M H loc vs xs w) (d : Nat) (o : Obj) (ho : look H d = some o) (y z : V) (hy1 : y.cells = [y]) (hz1 : z.cells = [z])
    (hown : isLst o = true → Rel (env w O (frzH d y z H) loc) (loc d) y) (hptr : ∀ g, blk (loc d) = some g → Rel (env w O (frzH d y z H) loc) (.pointer (some ⟨g, 0, none⟩)) z) (hmp : isMap o = true → Rel (env w O (frzH d y z H) loc) (loc d) z) :
    SimAt w0 O M (frzH d y z H) loc (V.frzL d y z vs) xs w ∧ (∀ x v, Rel (env w O H loc) x v → Rel (env w O (frzH d y z H) loc) x (V.frz d y z v)) := by
  have hs : ∀ id, id ≠ d → (look (frzH d y z H) id).isSome = (look H id).isSome := by
    intro id hk; rw [look_frzH, if_neg hk]; simp
  have hd0 : look (frzH d y z H) d = none := by rw [look_frzH, if_pos rfl]
  have hF : ∀ b, (env w O H loc).F b → (env w O (frzH d y z H) loc).F b ∧ w.heap[b]? = w.heap[b]? := by
    intro b hb'
    refine ⟨⟨hb'.1, hb'.2.1, fun id hid he => ?_⟩, rfl⟩
    by_cases hk : id = d
    · subst hk; rw [hd0] at hid; cases hid
    · rw [hs id hk] at hid; exact hb'.2.2 id hid he
  have alike : ∀ p : Obj, (match p with | .var t v => Obj.var t (V.frz d y z v) | q => q).alike p := by intro p; cases p <;> simp [Obj.alike]
  have hrel : ∀ x v, Rel (env w O H loc) x v → Rel (env w O (frzH d y z H) loc) x (V.frz d y z v) := by
    intro x v hr
    refine Rel.frz (E := env w O H loc) (E' := env w O (frzH d y z H) loc) d y z hF ?_ ?_ ?_ ?_ hr
    · intro id p hk hp
      have hp' : look H id = some p := hp
      exact ⟨_, by show look (frzH d y z H) id = _; rw [look_frzH, if_neg hk, hp']; rfl, alike p, rfl⟩
    · intro p hp hl; have hp' : look H d = some p := hp; rw [ho] at hp'; cases hp'; exact hown hl
    · intro p g hp hg; exact hptr g hg
    · intro p hp hl; have hp' : look H d = some p := hp; rw [ho] at hp'; cases hp'; exact hmp hl
  have kd : ∀ x v, v.data = true → Rel (env w O H loc) x v → Rel (env w O (frzH d y z H) loc) x v := fun x v hv hr => by have := hrel x v hr; rwa [V.frz_data d y z v hv] at this
  refine ⟨⟨?_, ?_, ?_, ?_, h.ext, h.O_lt⟩, hrel⟩
  · exact ⟨by rw [V.frzL_length]; exact h.vals.1, fun i hi => by rw [V.frzL_getD]; exact hrel _ _ (h.vals.2 i (by rwa [V.frzL_length] at hi))⟩
  · intro id p hp
    rw [look_frzH] at hp
    by_cases hk : id = d
    · rw [if_pos hk] at hp; cases hp
    · rw [if_neg hk] at hp
      cases hq : look H id with
      | none => rw [hq] at hp; cases hp
      | some q =>
        rw [hq] at hp
        cases hp
        have := h.objs id q hq
        cases q with
        | var t v =>
          obtain ⟨g, arr, e, hg, hr⟩ := this
          refine ⟨g, arr, e, hg, ?_⟩
          rw [V.cells_frz d y z v hy1 hz1]
          exact ⟨by rw [V.frzL_length]; exact hr.1, fun i hi => by rw [V.frzL_getD]; exact hrel _ _ (hr.2 i (by rwa [V.frzL_length] at hi))⟩
        | lst t sz es =>
          obtain ⟨hz, xs', ho', hf⟩ := this
          exact ⟨hz, xs', ho', hf.1, fun i j hi hj => kd _ _ (V.data_getD_cells hz.2 i j) (hf.2 i j hi hj)⟩
        | row t sz es =>
          obtain ⟨hz, g, arr, e, hg, h1, h2, hf⟩ := this
          exact ⟨hz, g, arr, e, hg, h1, h2, hf.1, fun i j hi hj => kd _ _ (V.data_getD_cells hz.2 i j) (hf.2 i j hi hj)⟩
        | map ks vs =>
          obtain ⟨g, arr, clk, e, hg, h1, h2, h3, h4⟩ := this
          exact ⟨g, arr, clk, e, hg, h1, h2, h3, fun i hi => kd _ _ (V.dataL_getD h3 i) (h4 i hi)⟩
  · intro id id' b h1 h2
    have e1 : id ≠ d := by rintro rfl; rw [hd0] at h1; cases h1
    have e2 : id' ≠ d := by rintro rfl; rw [hd0] at h2; cases h2
    rw [hs id e1] at h1; rw [hs id' e2] at h2
    exact h.dist id id' b h1 h2
  · intro id b h1
    have e1 : id ≠ d := by rintro rfl; rw [hd0] at h1; cases h1
    rw [hs id e1] at h1
    exact h.own id b h1

/-- A list of the call's own, as data. -/
theorem SimAt.freeze_lst (h : SimAt w0 O M H loc vs xs w) (d : Nat) {t : TypeId} {sz : Nat} {es : List V} (ho : look H d = some (.lst t sz es)) :
    SimAt w0 O M (frzH d (.sl false es) .junk H) loc (V.frzL d (.sl false es) .junk vs) xs w ∧
      (∀ x v, Rel (env w O H loc) x v → Rel (env w O (frzH d (.sl false es) .junk H) loc) x (V.frz d (.sl false es) .junk v)) := by
  have hob := h.objs d _ ho
  have hF : ∀ b, (env w O H loc).F b → (env w O (frzH d (.sl false es) .junk H) loc).F b ∧ (env w O (frzH d (.sl false es) .junk H) loc).w.heap[b]? = (env w O H loc).w.heap[b]? := by
    intro b hb'
    refine ⟨⟨hb'.1, hb'.2.1, fun id hid he => ?_⟩, rfl⟩
    rw [look_frzH] at hid
    by_cases hk : id = d
    · rw [if_pos hk] at hid; cases hid
    · rw [if_neg hk] at hid; exact hb'.2.2 id (by simpa using hid) he
  have hFd : ∀ b, blk (loc d) = some b → (env w O (frzH d (.sl false es) .junk H) loc).F b := by
    intro b hb'
    refine ⟨h.lt (by simp [ho]) hb', (h.own d b (by simp [ho]) hb').1, fun id hid he => ?_⟩
    rw [look_frzH] at hid
    by_cases hk : id = d
    · rw [if_pos hk] at hid; cases hid
    · rw [if_neg hk] at hid; exact hk (h.dist id d b (by simpa using hid) (by simp [ho]) he hb')
  refine h.freeze d _ ho _ _ rfl rfl (fun _ => ?_) (fun g hg => .junk _ rfl) (fun hm => by simp [isMap] at hm)
  obtain ⟨⟨hz, hd⟩, xs', hr, hf1, hf2⟩ := hob
  have hr0 := hr
  rcases hr.2 with ⟨e, h0⟩ | ⟨g, cap, cur, e, h1, hg, h2, h3, h4, h5⟩
  · have : es = [] := List.eq_nil_of_length_eq_zero h0
    subst this
    have e' : loc d = .slice none 0 0 := e
    rw [e']
    exact .nil _ _ _ (by simp) (by simp [maxLen])
  · have e' : loc d = .slice (some ⟨g, 0, none⟩) es.length cap := e
    rw [e']
    by_cases h0 : es = []
    · subst h0; exact .nil _ _ _ (by simp) h3
    · refine .sl false es g 0 cap sz (fun k => xs'.getD k undef) hd h2 h3 (by simp) (hFd g (by rw [e']; rfl)) hz hf1 (fun k hk => ?_) (fun i j hi hj => (hf2 i j hi hj).data_mono hF (V.data_getD_cells hd i j))
      have hn : ((env w O H loc).loc d).ownBlock = some g := by show (loc d).ownBlock = some g; rw [e']; rfl
      have hk' : k < xs'.length := by rw [hr0.1]; exact hk
      have := hr0.cells hn k (xs'.getD k undef) (by simp [List.getD_eq_getElem?_getD, List.getElem?_eq_getElem hk'])
      rw [addr_add] at this
      exact this

/-- A variable of the call's own, as data. -/
theorem SimAt.freeze_var (h : SimAt w0 O M H loc vs xs w) (d : Nat) {t : TypeId} {u : V} (ho : look H d = some (.var t u)) (hu : u.data = true) :
    SimAt w0 O M (frzH d .junk (.pt u) H) loc (V.frzL d .junk (.pt u) vs) xs w ∧
      (∀ x v, Rel (env w O H loc) x v → Rel (env w O (frzH d .junk (.pt u) H) loc) x (V.frz d .junk (.pt u) v)) := by
  have hob := h.objs d _ ho
  have hF : ∀ b, (env w O H loc).F b → (env w O (frzH d .junk (.pt u) H) loc).F b ∧ (env w O (frzH d .junk (.pt u) H) loc).w.heap[b]? = (env w O H loc).w.heap[b]? := by
    intro b hb'
    refine ⟨⟨hb'.1, hb'.2.1, fun id hid he => ?_⟩, rfl⟩
    rw [look_frzH] at hid
    by_cases hk : id = d
    · rw [if_pos hk] at hid; cases hid
    · rw [if_neg hk] at hid; exact hb'.2.2 id (by simpa using hid) he
  refine h.freeze d _ ho _ _ rfl rfl (fun hl => by simp [isLst] at hl) (fun g hg => ?_) (fun hm => by simp [isMap] at hm)
  obtain ⟨g', arr, e, hh, hr⟩ := hob
  have e' : loc d = .pointer (some ⟨g', 0, none⟩) := e
  rw [e'] at hg
  simp [blk] at hg
  subst hg
  refine .pt u g' 0 (fun k => arr.getD k undef) hu ⟨(Array.getElem?_eq_some_iff.1 hh).1, (h.own d g' (by simp [ho]) (by rw [e']; rfl)).1, fun id hid he => ?_⟩ (fun k hk => ?_) (fun j hj => ?_)
  · rw [look_frzH] at hid
    by_cases hk : id = d
    · rw [if_pos hk] at hid; cases hid
    · rw [if_neg hk] at hid; exact hk (h.dist id d g' (by simpa using hid) (by simp [ho]) he (by rw [e']; rfl))
  · have hk' : k < arr.size := by have := hr.1; simp at this; omega
    show w.cell? _ = _
    rw [cell_of_row w g' _ arr t (0, 0) hh]
    simp [Array.getD_eq_getD_getElem?, hk']
  · have := (hr.2 j hj).data_mono hF (V.dataL_getD (V.data_cells hu) j)
    simpa [Array.getD_eq_getD_getElem?, List.getD_eq_getElem?_getD] using this
end
end Go.AM
