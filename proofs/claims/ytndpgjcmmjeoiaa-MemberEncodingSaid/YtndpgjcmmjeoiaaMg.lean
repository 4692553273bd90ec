/- Ghosts: what is known of a concrete value; calls that are handed objects of the caller's own. Own work; imports the kit's laws only. -/
import Derived.Test.YtndpgjcmmjeoiaaMe
set_option linter.unusedVariables false
set_option linter.unusedSimpArgs false
set_option maxRecDepth 8000
set_option maxHeartbeats 1000000
namespace Go.AM
open V (Le LeL)
section
variable {P : Program} {f : FuncId} {post : V → Heap → Prop} {todo : List Item} {s : St}
theorem Runs.atI {α : Type} (μ : α → Nat) (Inv : α → Prop) (I : α → St) (a0 : α) (h0 : Inv a0) (hle : s.Le (I a0)) (hs : ∀ a, Inv a → (∀ b s', Inv b → μ b < μ a → s'.Le (I b) → Runs P f post todo s') → Runs P f post todo (I a)) : Runs P f post todo s := by
  have key : ∀ n a, μ a = n → Inv a → Runs P f post todo (I a) := by
    intro n
    induction n using Nat.strongRecOn with
    | _ n ih =>
      intro a hn ha
      exact hs a ha fun b s' hb hlt hle' => Runs.weaken hle' (ih (μ b) (hn ▸ hlt) b rfl hb)
  exact Runs.weaken hle (key _ a0 rfl h0)
theorem set_self {α : Type} {l : List α} {j : Nat} {d : α} (hj : j < l.length) : l.set j (l.getD j d) = l := by
  apply List.ext_getElem?
  intro i
  rw [List.getElem?_set]
  by_cases h : j = i
  · subst h
    rw [if_pos rfl, if_pos hj, List.getElem?_eq_getElem hj, List.getD_eq_getElem?_getD, List.getElem?_eq_getElem hj]; rfl
  · rw [if_neg h]
theorem setD_eq {l : List V} {i : Nat} {x : V} (h : i < l.length) : (l.set i x).getD i .any = x := by
  rw [List.getD_eq_getElem?_getD, List.getElem?_set, if_pos rfl, if_pos h]; rfl
theorem setD_ne {l : List V} {i n : Nat} {x : V} (h : ¬ i = n) : (l.set n x).getD i .any = l.getD i .any := by
  rw [List.getD_eq_getElem?_getD, List.getElem?_set, if_neg (fun q => h q.symm), ← List.getD_eq_getElem?_getD]
theorem SimAt.ghost {w0 : World} {O M : Nat → Prop} {H : Heap} {loc : Nat → Value} {vs : List V} {xs : List Value} {w : World} (S : SimAt w0 O M H loc vs xs w) (k : Nat) (hk : look H k = none) {x : Value} {v : V} (hr : Rel (env w O H loc) x v) :
    SimAt w0 O M ((k, .gho x v) :: H) (fun i => if i = k then undef else loc i) vs xs w ∧ ∀ y u, Rel (env w O H loc) y u → Rel (env w O ((k, .gho x v) :: H) (fun i => if i = k then undef else loc i)) y u :=
  S.new k hk (Ext.refl w _) undef (.gho x v) (by intro b hb; simp [blk, undef] at hb) (fun hrel => ⟨hrel _ _ hr, by show blk (if k = k then undef else loc k) = none; rw [if_pos rfl]; rfl⟩)
theorem Runs.pin (j k : Nat) {v : V} (hj : s.slots.getD j .any = v) (hl : j < s.slots.length) (hk : look s.heap k = none) (h : ∀ x, Runs P f post todo ⟨s.slots.set j (.sc x), (k, .gho x v) :: s.heap⟩) : Runs P f post todo s := by
  intro w0 O M loc a w b cs hd S hb hkd
  have hr := S.vals.2 j hl
  rw [hj] at hr
  obtain ⟨k1, k2⟩ := S.ghost k hk hr
  have k3 := k1.put j (Rel.sc (a.tmps.toList.getD j undef))
  rw [set_self (by rw [S.vals.1]; exact hl)] at k3
  exact h _ w0 O M _ a w b cs hd k3 hb hkd
theorem Runs.pinPtr (j k : Nat) {id : Nat} (hj : s.slots.getD j .any = .ptr id 0 0) (hl : j < s.slots.length) (hk : look s.heap k = none)
    (h : ∀ g, Runs P f post todo ⟨s.slots.set j (.sc (.pointer (some ⟨g, 0, none⟩))), (k, .gho (.pointer (some ⟨g, 0, none⟩)) (.ptr id 0 0)) :: s.heap⟩) : Runs P f post todo s := by
  refine Runs.pin j k hj hl hk fun x => ?_
  intro w0 O M loc a w b cs hd S hb hkd
  obtain ⟨hr, _⟩ := S.objs k _ (look_eq k _ _)
  obtain ⟨o, g, e, _, _⟩ := hr.ptr_inv
  have e' : x = .pointer (some ⟨g, 0, none⟩) := by simpa using e
  subst e'
  exact h g w0 O M loc a w b cs hd S hb hkd
theorem St.Le.unpin (j k : Nat) {x : Value} {v : V} (hk : look s.heap k = some (.gho x v)) (hj : s.slots.getD j .any = .sc x) (hl : j < s.slots.length) : s.Le ⟨s.slots.set j v, s.heap⟩ := by
  intro w0 O M loc xs w S
  refine ⟨loc, ?_⟩
  have hx : xs.getD j undef = x := by
    have := S.vals.2 j hl
    rw [hj] at this; exact Rel.sc_iff.1 this
  have k3 := S.put j (x := x) (S.objs k _ hk).1
  rw [← hx, set_self (by rw [S.vals.1]; exact hl)] at k3
  exact k3
theorem St.Le.unpinVar (k id n : Nat) {T : TypeId} {cs : List V} {x : Value} {v : V} (hk : look s.heap k = some (.gho x v)) (hv : look s.heap id = some (.var T (.agg cs))) (hc : cs.getD n .any = .sc x) : s.Le ⟨s.slots, upd s.heap id (.var T (.agg (cs.set n v)))⟩ := by
  intro w0 O M loc xs w S
  refine ⟨loc, ?_⟩
  obtain ⟨gv, arr, hloc, hheap, hrel⟩ := S.objs id _ hv
  obtain ⟨hg, _⟩ := S.objs k _ hk
  have hs : ∀ i, (look (upd s.heap id (.var T (.agg (cs.set n v)))) i).isSome = (look s.heap i).isSome := by
    intro i; rw [look_upd]; by_cases e : i = id <;> simp [e]
  have hF : ∀ b, (env w O s.heap loc).F b → (env w O (upd s.heap id (.var T (.agg (cs.set n v)))) loc).F b ∧ w.heap[b]? = w.heap[b]? := fun b hb => ⟨⟨hb.1, hb.2.1, fun i hi => hb.2.2 i (by rw [← hs]; exact hi)⟩, rfl⟩
  have hrl : ∀ x u, Rel (env w O s.heap loc) x u → Rel (env w O (upd s.heap id (.var T (.agg (cs.set n v)))) loc) x u := by
    intro x u hr
    refine hr.mono (E := env w O s.heap loc) (E' := env w O (upd s.heap id (.var T (.agg (cs.set n v)))) loc) hF fun i p hp => ?_
    have hp' : look s.heap i = some p := hp
    by_cases e : i = id
    · subst e
      rw [hv] at hp'; cases hp'
      have e9 := look_upd s.heap i (.var T (.agg (cs.set n v))) i
      rw [if_pos rfl, hv] at e9
      exact ⟨_, e9, by exact rfl, rfl⟩
    · exact ⟨p, by show look _ _ = _; rw [look_upd, if_neg e]; exact hp', p.alike_refl, rfl⟩
  refine ⟨S.vals.imp hrl, fun i p hp => ?_, fun i i' b a1 a2 => S.dist i i' b (by rw [← hs]; exact a1) (by rw [← hs]; exact a2), fun i b a1 => S.own i b (by rw [← hs]; exact a1), S.ext, S.O_lt⟩
  rw [look_upd] at hp
  by_cases e : i = id
  · subst e
    rw [if_pos rfl, hv] at hp
    cases hp
    refine ⟨gv, arr, hloc, hheap, by rw [show V.cells (.agg (cs.set n v)) = cs.set n v from rfl, List.length_set]; exact hrel.1, fun i hi => ?_⟩
    rw [show V.cells (.agg (cs.set n v)) = cs.set n v from rfl] at hi ⊢
    rw [List.length_set] at hi
    have h0 := hrel.2 i hi
    rw [show V.cells (.agg cs) = cs from rfl] at h0
    by_cases e : i = n
    · subst e
      rw [hc] at h0
      rw [Rel.sc_iff.1 h0, setD_eq hi]; exact hrl _ _ hg
    · rw [setD_ne e]; exact hrl _ _ h0
  · rw [if_neg e] at hp
    exact (S.objs i p hp).imp rfl (fun b _ => rfl) hrl
def Gh (H : Heap) (v u : V) : Prop := ∀ (w0 : World) (O M : Nat → Prop) (loc : Nat → Value) (vs : List V) (xs : List Value) (w : World), SimAt w0 O M H loc vs xs w → ∀ x, Rel (env w O H loc) x v → Rel (env w O H loc) x u
theorem Gh.refl (H : Heap) (v : V) : Gh H v v := fun _ _ _ _ _ _ _ _ _ h => h
theorem Gh.le {H : Heap} {v u : V} (h : Le v u) : Gh H v u := fun _ _ _ _ _ _ _ _ _ r => V.Rel_le h r
theorem Gh.gho {H : Heap} (k : Nat) {x : Value} {v : V} (hk : look H k = some (.gho x v)) : Gh H (.sc x) v := fun _ _ _ _ _ _ _ S y hr => by
  rw [Rel.sc_iff.1 hr]; exact (S.objs k _ hk).1
theorem Gh.ptr {H : Heap} (k id i fo : Nat) {x : Value} {v : V} {g n : Nat} {o : Obj} (hk : look H k = some (.gho x v)) (hg : blk x = some g) (hv : v = .own id ∨ v = .ptr id 0 0) (ho : look H id = some o) (hn : n = i * o.sz + fo) : Gh H (.sc (.pointer (some ⟨g, n, none⟩))) (.ptr id i fo) := fun w0 O M loc vs xs w S y hr => by
  rw [Rel.sc_iff.1 hr]
  have h1 := (S.objs k _ hk).1
  have hb : blk (loc id) = some g := by
    rcases hv with rfl | rfl
    · obtain ⟨e, _⟩ := h1.own_inv
      have e' : x = loc id := e
      rw [← e']; exact hg
    · obtain ⟨o', g', e, _, h2⟩ := h1.ptr_inv
      rw [e] at hg
      simp only [blk, Option.some.injEq] at hg
      subst hg; exact h2
  subst hn
  exact .ptr id i fo o g ho hb
def GhL (H : Heap) : List V → List V → Prop
  | [], [] => True
  | v :: vs, u :: us => Gh H v u ∧ GhL H vs us
  | _, _ => False
theorem GhL.rel {H : Heap} {w0 : World} {O M : Nat → Prop} {loc : Nat → Value} {zs : List V} {xs : List Value} {w : World} (S : SimAt w0 O M H loc zs xs w) : ∀ {vs us : List V} {ys : List Value}, GhL H vs us → RelL (env w O H loc) ys vs → RelL (env w O H loc) ys us
  | [], [], ys, _, h => h
  | v :: vs, u :: us, [], _, h => by have := h.1; simp at this
  | v :: vs, u :: us, y :: ys, hg, h => .cons (hg.1 w0 O M loc zs xs w S y h.uncons.1) (GhL.rel S hg.2 h.uncons.2)
  | [], _ :: _, _, h, _ => h.elim
  | _ :: _, [], _, h, _ => h.elim
def dataOr (v : V) : V := if v.data = true then v else .any
theorem CallS.hand {f : FuncId} {fv : V} {caps vs us : List V} {r : V} {H1 : Heap} {K : V → St → Prop} (hs : Spec P f (us ++ caps) s.heap (fun r' H' => r' = r ∧ H' = H1)) (hb : hasBody P f) (hf : Gh s.heap fv (.fn f caps)) (hle : GhL s.heap vs us)
    (hK : K r ⟨s.slots.map dataOr, H1⟩) : CallS P fv vs s K := by
  intro w0 O M loc xs w fx ys S hf0 hy
  have hf1 := hf w0 O M loc _ _ w S fx hf0
  obtain ⟨arr, rfl, harr⟩ := Rel.fn_iff.1 hf1
  refine .inl ⟨f, arr, rfl, .inl ⟨hb, ?_⟩⟩
  have hr := (hle.rel S hy).append harr
  have S1 : SimAt w O (Owned s.heap loc) s.heap loc (us ++ caps) (ys ++ arr.toList) w :=
    ⟨hr, S.objs, S.dist, fun id b h1 h2 => ⟨(S.own id b h1 h2).1, .inr ⟨id, h1, h2⟩⟩, Ext.refl w _, fun b hb => Nat.lt_of_lt_of_le (S.O_lt b hb) S.ext.size⟩
  have := hs w O _ loc S1
  rw [show ys.toArray ++ arr = (ys ++ arr.toList).toArray by simp]
  refine this.mono ?_
  rintro e w' ⟨r', H', x, loc', ⟨rfl, rfl⟩, rfl, S2⟩
  have hF : ∀ b, (env w O s.heap loc).F b → (env w' O H' loc').F b ∧ (env w' O H' loc').w.heap[b]? = (env w O s.heap loc).w.heap[b]? := by
    intro b hb
    have hno : ¬ Owned s.heap loc b := fun ⟨id, h1, h2⟩ => hb.2.2 id h1 h2
    refine ⟨⟨Nat.lt_of_lt_of_le hb.1 S2.ext.size, hb.2.1, fun id h1 h2 => ?_⟩, S2.ext.block b hb.1 hno⟩
    rcases (S2.own id b h1 h2).2 with h | h
    · exact absurd hb.1 (Nat.not_lt.2 h)
    · exact hno h
  refine ⟨r', _, x, loc', hK, rfl, ⟨⟨by rw [List.length_map]; exact S.vals.1, fun i hi => ?_⟩, S2.objs, S2.dist, fun id b h1 h2 => ⟨(S2.own id b h1 h2).1, ?_⟩, S.ext.trans S2.ext fun x hx hlt => ?_, S.O_lt⟩, S2.vals.uncons.1⟩
  · rw [List.length_map] at hi
    have e : (s.slots.map dataOr).getD i .any = dataOr (s.slots.getD i .any) := by
      rw [List.getD_eq_getElem?_getD, List.getD_eq_getElem?_getD, List.getElem?_map, List.getElem?_eq_getElem hi]; rfl
    rw [e]
    unfold dataOr
    split
    · rename_i hd
      exact (S.vals.2 i hi).data_mono hF hd
    · exact .any _
  · rcases (S2.own id b h1 h2).2 with h | ⟨k, h3, h4⟩
    · exact .inl (Nat.le_trans S.ext.size h)
    · exact (S.own k b h3 h4).2
  · obtain ⟨k, h3, h4⟩ := hx
    exact (S.own k x h3 h4).2.resolve_left (by omega)
end
section
variable {P : Program} {A : Array Oper} {rest : List Oper} {slots : List V} {H : Heap} {K1 : St → Prop} {D : Nat} {t : TypeId} {pos : String} {af : Array Edge}
theorem r_hand {f : FuncId} {args : Array Operand} {ats : Array TypeId} {x : Operand} {caps us : List V} {r : V} {H1 : Heap} (hs : Spec P f (us ++ caps) H (fun r' H' => r' = r ∧ H' = H1)) (hb : hasBody P f) (hf : Gh H (ev slots x) (.fn f caps)) (hle : GhL H (args.toList.map (ev slots)) us)
    (h : evalR P A rest ⟨(slots.map dataOr).set D r, H1⟩ K1) : evalR P A (⟨some D, .call { callee := .value x, args := args, argTypes := ats }, t, pos, af, none⟩ :: rest) ⟨slots, H⟩ K1 := by
  refine r_call ?_
  exact CallS.hand hs hb hf hle h
end
end Go.AM
