/- The abstract machine, part 16: drawn regions are sound ('Runs.drawn'). -/
import Derived.Test.YtmhnmookgbmmbaaAm15
set_option linter.unusedVariables false
set_option linter.unusedSimpArgs false
namespace Go.AM
open V (Le LeL)

theorem mem_opt {α : Type} {o : Option α} {x : α} (h : o = some x) : x ∈ o.toArray := by subst h; simp
theorem opt_map_congr {e e' : Operand → V} {o : Option Operand} (h : ∀ x ∈ o.toArray, e x = e' x) : o.map e = o.map e' := by
  cases o with
  | none => rfl
  | some x => simp [h x (by simp)]
theorem list_map_congr {e e' : Operand → V} {l : Array Operand} (h : ∀ x ∈ l, e x = e' x) : l.toList.map e = l.toList.map e' :=
  List.map_congr_left fun x hx => h x (by simpa using hx)

/-- Only the operands are looked at. -/
theorem valK_congr {P : Program} {op : Op} {e e' : Operand → V} {H : Heap} {K : V → Prop} (h : ∀ x ∈ op.operands, e x = e' x) (hv : valK P op e H K) : valK P op e' H K := by
  cases op with
  | call c =>
    obtain ⟨callee, args, argTypes⟩ := c
    have ha : args.toList.map e = args.toList.map e' := list_map_congr fun x hx => h x (by simp [Op.operands, Call.operands, hx])
    have hm : ∀ x ∈ args.toList, e x = e' x := fun x hx => h x (by simp [Op.operands, Call.operands]; right; simpa using hx)
    cases callee with
    | builtin b =>
      cases b <;> simp only [valK] at hv ⊢ <;> first
        | exact hv
        | (revert hv
           split
           · rename_i x t hx ht
             rw [hm x (by rw [hx]; simp)]
             exact id
           · exact id)
        | (revert hv
           split
           · rename_i x y hx
             rw [hm x (by rw [hx]; simp), hm y (by rw [hx]; simp)]
             exact id
           · exact id)
    | value f => simp only [valK] at hv
    | invoke r m => simp only [valK] at hv
  | makeFunc fn first caps =>
    have hc : caps.toList.map e = caps.toList.map e' := list_map_congr fun x hx => h x (by simp [Op.operands, hx])
    cases fn <;> simp only [valK] at hv ⊢ <;> first | exact hv | (rw [← hc]; exact hv)
  | build t parts =>
    have hp : ∀ p ∈ parts.toList, e p.2 = e' p.2 := fun p hp => h p.2 (by simp only [Op.operands, List.mem_toArray]; exact List.mem_map.2 ⟨p, hp, rfl⟩)
    simp only [valK] at hv ⊢
    have e1 : (parts.toList.map fun p => (p.1, e p.2)) = parts.toList.map fun p => (p.1, e' p.2) := List.map_congr_left fun p hpp => by rw [hp p hpp]
    have e2 : (parts.toList.all fun p => (e p.2).okCells) = parts.toList.all fun p => (e' p.2).okCells := by
      rw [Bool.eq_iff_iff, List.all_eq_true, List.all_eq_true]
      exact ⟨fun q p hpp => by rw [← hp p hpp]; exact q p hpp, fun q p hpp => by rw [hp p hpp]; exact q p hpp⟩
    rw [← e1, ← e2]; exact hv
  | slice t x lo hi mx =>
    have h1 := h x (by simp [Op.operands])
    have h2 : lo.map e = lo.map e' := opt_map_congr fun y hy => h y (by simp only [Op.operands, Array.mem_append]; exact .inl (.inl (.inr hy)))
    have h3 : hi.map e = hi.map e' := opt_map_congr fun y hy => h y (by simp only [Op.operands, Array.mem_append]; exact .inl (.inr hy))
    have h4 : mx.map e = mx.map e' := opt_map_congr fun y hy => h y (by simp only [Op.operands, Array.mem_append]; exact .inr hy)
    simp only [valK] at hv ⊢
    rw [← h1, ← h2, ← h3, ← h4]; exact hv
  | pick c a b =>
    have h1 := h c (by simp [Op.operands]); have h2 := h a (by simp [Op.operands]); have h3 := h b (by simp [Op.operands])
    simp only [valK] at hv ⊢; rw [← h1, ← h2, ← h3]; exact hv
  | move x | assign x | nilCheck x | load _ x | unOp _ _ x | convert _ _ x | fieldAddr _ x _ | field _ x _ | extract x _ =>
    have h1 := h x (by simp [Op.operands])
    simp only [valK] at hv ⊢; rw [← h1]; exact hv
  | binOp _ _ x y _ | indexAddr _ x y | index _ x y | lookup _ x y _ =>
    have h1 := h x (by simp [Op.operands]); have h2 := h y (by simp [Op.operands])
    simp only [valK] at hv ⊢; rw [← h1, ← h2]; exact hv
  | _ => simp only [valK] at hv

theorem dK_congr {P : Program} {o : Oper} {e e' : Operand → V} {H : Heap} {K : V → Heap → Prop} (h : ∀ x ∈ o.op.operands, e x = e' x) (hv : dK P o e H K) : dK P o e' H K := by
  unfold dK at hv ⊢
  revert hv h
  cases o.op with
  | call c =>
    obtain ⟨callee, args, argTypes⟩ := c
    cases callee with
    | value x =>
      intro h hv
      have hx := h x (by simp [Op.operands, Call.operands])
      have ha : args.toList.map e = args.toList.map e' := list_map_congr fun y hy => h y (by simp [Op.operands, Call.operands, hy])
      simp only at hv ⊢
      rw [← hx, ← ha]; exact hv
    | builtin b => intro h hv; exact valK_congr h hv
    | invoke r m => intro h hv; exact valK_congr h hv
  | buildSlice t n parts =>
    intro h hv
    have hp : ∀ p ∈ parts.toList, e p.2 = e' p.2 := fun p hp => h p.2 (by simp only [Op.operands, List.mem_toArray]; exact List.mem_map.2 ⟨p, hp, rfl⟩)
    have e1 : (parts.toList.map fun p => e p.2) = parts.toList.map fun p => e' p.2 := List.map_congr_left fun p hpp => hp p hpp
    simp only at hv ⊢
    rw [← e1]; exact hv
  | store t a x =>
    intro h hv
    have h1 := h a (by simp [Op.operands]); have h2 := h x (by simp [Op.operands])
    simp only at hv ⊢
    rw [← h1, ← h2]; exact hv
  | _ => intro h hv; exact valK_congr h hv

/-- Does not look at the objects, and writes none. -/
def pureB : Op → Bool
  | .move _ | .assign _ | .pick .. | .nilCheck _ | .binOp .. | .unOp .. | .convert .. | .fieldAddr .. | .field .. | .index .. | .extract .. | .build .. | .buildSlice .. | .makeFunc .. => true
  | .call { callee := .value _, .. } | .call { callee := .builtin .max, .. } | .call { callee := .builtin .min, .. } => true
  | _ => false
def writesB : Op → Bool | .store .. => true | _ => false

theorem dK_keeps {P : Program} {o : Oper} {e : Operand → V} {H H' : Heap} {v : V} (hw : writesB o.op = false) (h : dK P o e H (fun u G => u = v ∧ G = H')) : H' = H := by
  unfold dK at h
  revert h hw
  cases o.op with
  | call c =>
    obtain ⟨callee, args, argTypes⟩ := c
    cases callee with
    | value x => rintro - ⟨f, caps, us, r, _, _, _, _, _, _, h⟩; exact h.symm
    | builtin b => intro _ hv; obtain ⟨u, _, h⟩ := valK_point hv; exact h.2.symm
    | invoke r m => intro _ hv; obtain ⟨u, _, h⟩ := valK_point hv; exact h.2.symm
  | buildSlice t n parts =>
    intro _ hv
    simp only at hv
    split at hv
    · exact hv.2.2.2.2.2.2.2.2.symm
    · exact hv.elim
  | store t a x => intro h; simp [writesB] at h
  | _ => intro _ hv; obtain ⟨u, _, h⟩ := valK_point hv; exact h.2.symm

theorem dK_pure {P : Program} {o : Oper} {e : Operand → V} {H G : Heap} {v : V} (hp : pureB o.op = true) (h : dK P o e H (fun u F => u = v ∧ F = H)) : dK P o e G (fun u F => u = v ∧ F = G) := by
  have hv1 : ∀ (op : Op), valK P op e H (fun u => u = v ∧ H = H) → (∀ K, valK P op e H K → valK P op e G K) → valK P op e G (fun u => u = v ∧ G = G) := by
    intro op h1 h2
    have := h2 _ h1
    simpa using this
  unfold dK at h ⊢
  revert h hp
  cases o.op with
  | call c =>
    obtain ⟨callee, args, argTypes⟩ := c
    cases callee with
    | value x => rintro - ⟨f, caps, us, r, h1, h2, h3, h4, h5, h6, _⟩; exact ⟨f, caps, us, r, h1, h2, h3, h4, h5, h6, rfl⟩
    | builtin b => cases b <;> intro hp hv <;> first | (simp [pureB] at hp; done) | (refine hv1 _ hv ?_; intro K hK; simpa only [valK] using hK)
    | invoke r m => intro hp; simp [pureB] at hp
  | buildSlice t n parts =>
    intro _ hv
    simp only at hv ⊢
    split at hv
    · exact ⟨hv.1, hv.2.1, hv.2.2.1, hv.2.2.2.1, hv.2.2.2.2.1, hv.2.2.2.2.2.1, hv.2.2.2.2.2.2.1, hv.2.2.2.2.2.2.2.1, by trivial⟩
    · exact hv
  | makeFunc fn first caps => intro hp hv; refine hv1 _ hv ?_; intro K hK; cases fn <;> simp only [valK] at hK ⊢ <;> exact hK
  | _ => intro hp hv; first | (simp [pureB] at hp; done) | (refine hv1 _ hv ?_; intro K hK; simpa only [valK] using hK)

/-! ### One operation, from state to state -/
def Yv (P : Program) (ops : Array Oper) (o : Oper) (s : St) (v : V) (H' : Heap) : Prop := match o.guard with
  | none => dK P o (ev s.slots) s.heap (fun u G => u = v ∧ G = H')
  | some (j, want) => (∃ d b, (ops[j]?).bind (·.dst) = some d ∧ s.slots.getD d .any = .sc (.bool b) ∧ (if b = want then dK P o (ev s.slots) s.heap (fun u G => u = v ∧ G = H') else v = .sc undef ∧ H' = s.heap)) ∨
      ∃ d arr, (ops[j]?).bind (·.dst) = some d ∧ s.slots.getD d .any = .sc (.tuple arr) ∧ v = .sc undef ∧ H' = s.heap
def after (o : Oper) (s : St) (v : V) (H' : Heap) : St := (⟨s.slots, H'⟩ : St).put o.dst v
def chain (P : Program) (ops : Array Oper) : List Oper → St → (St → Prop) → Prop
  | [], s, K => K s
  | o :: rest, s, K => ∃ v H', Yv P ops o s v H' ∧ chain P ops rest (after o s v H') K

theorem set_same {l : List V} {d : Nat} {x : V} (h : l.getD d .any = x) (hd : d < l.length) : l.set d x = l := by
  apply List.ext_getElem?
  intro i
  rw [List.getElem?_set]
  by_cases hi : d = i
  · subst hi
    rw [if_pos rfl, if_pos hd]
    rw [List.getD_eq_getElem?_getD, List.getElem?_eq_getElem hd] at h
    rw [List.getElem?_eq_getElem hd, ← h]; rfl
  · rw [if_neg hi]

theorem chain_of_evalD {P : Program} {ops : Array Oper} : ∀ {l : List Oper} {s : St} {K : St → Prop}, evalD P ops l s K → chain P ops l s K
  | [], s, K, h => h
  | o :: rest, s, K, h => by
    unfold evalD at h
    unfold chain
    split at h
    · rename_i hg
      obtain ⟨v, H', h1, h2⟩ := dK_point h
      exact ⟨v, H', by unfold Yv; rw [hg]; exact h1, chain_of_evalD h2⟩
    · rename_i j want hg
      split at h
      · rename_i d hd
        split at h
        · rename_i b hb
          have hlt : d < s.slots.length := by
            rcases Nat.lt_or_ge d s.slots.length with h' | h'
            · exact h'
            · rw [List.getD_eq_getElem?_getD, List.getElem?_eq_none h'] at hb; cases hb
          have hset := set_same hb hlt
          by_cases hw : b = want
          · subst hw
            have h1 := h.1 rfl
            rw [hset] at h1
            obtain ⟨v, H', h1, h2⟩ := dK_point h1
            exact ⟨v, H', by unfold Yv; rw [hg]; exact .inl ⟨d, b, hd, hb, by rw [if_pos rfl]; exact h1⟩, chain_of_evalD h2⟩
          · have hw' : b = (!want) := by cases b <;> cases want <;> simp_all
            have h1 := h.2 hw'
            rw [← hw', hset] at h1
            exact ⟨.sc undef, s.heap, by unfold Yv; rw [hg]; exact .inl ⟨d, b, hd, hb, by rw [if_neg hw]; exact ⟨rfl, rfl⟩⟩, chain_of_evalD h1⟩
        · rename_i arr hb
          exact ⟨.sc undef, s.heap, by unfold Yv; rw [hg]; exact .inr ⟨d, arr, hd, hb, rfl, rfl⟩, chain_of_evalD h⟩
        · exact h.elim
      · exact h.elim

/-! ### Two operations, in either order -/
def commB (x y : Op) : Bool := pureB x || pureB y || (!writesB x && !writesB y)

theorem ev_put {slots : List V} {d : Option Tmp} {u : V} {x : Operand} (h : ∀ t, d = some t → x ≠ .tmp t) (H : Heap) : ev ((⟨slots, H⟩ : St).put d u).slots x = ev slots x := by
  cases d with
  | none => rfl
  | some t =>
    cases x with
    | tmp t' =>
      have : t ≠ t' := fun e => h t rfl (by rw [e])
      exact getD_set_ne' this _ _
    | _ => rfl

theorem Yv_slots {P : Program} {ops : Array Oper} {o : Oper} {slots : List V} {H H' : Heap} {v u : V} {d : Option Tmp} (h : ∀ t, d = some t → t ∉ o.looksAt ops) (hs : List V) (hh : hs = ((⟨slots, H⟩ : St).put d u).slots) :
    Yv P ops o ⟨slots, H⟩ v H' ↔ Yv P ops o ⟨hs, H⟩ v H' := by
  subst hh
  have hop : ∀ x ∈ o.op.operands, ev ((⟨slots, H⟩ : St).put d u).slots x = ev slots x := fun x hx => ev_put (fun t ht e => h t ht (by
    simp only [Oper.looksAt, List.mem_append, List.mem_filterMap]
    exact .inl ⟨x, by simpa using hx, by rw [e]⟩)) H
  have hg : ∀ g want dd, o.guard = some (g, want) → (ops[g]?).bind (·.dst) = some dd → ((⟨slots, H⟩ : St).put d u).slots.getD dd .any = slots.getD dd .any := fun g want dd hgd hdd => by
    have := ev_put (slots := slots) (d := d) (u := u) (x := .tmp dd) (fun t ht e => h t ht (by
      simp only [Oper.looksAt, List.mem_append]
      right
      rw [hgd]
      simp only [hdd]
      cases e; simp)) H
    exact this
  unfold Yv
  cases hgd : o.guard with
  | none => exact ⟨fun q => dK_congr (fun x hx => (hop x hx).symm) q, fun q => dK_congr hop q⟩
  | some p =>
    obtain ⟨g, want⟩ := p
    constructor
    · rintro (⟨dd, b, h1, h2, h3⟩ | ⟨dd, arr, h1, h2, h3⟩)
      · refine .inl ⟨dd, b, h1, (hg g want dd hgd h1).trans h2, ?_⟩
        by_cases hb : b = want
        · rw [if_pos hb] at h3 ⊢; exact dK_congr (fun x hx => (hop x hx).symm) h3
        · rw [if_neg hb] at h3 ⊢; exact h3
      · exact .inr ⟨dd, arr, h1, (hg g want dd hgd h1).trans h2, h3⟩
    · rintro (⟨dd, b, h1, h2, h3⟩ | ⟨dd, arr, h1, h2, h3⟩)
      · refine .inl ⟨dd, b, h1, (hg g want dd hgd h1).symm.trans h2, ?_⟩
        by_cases hb : b = want
        · rw [if_pos hb] at h3 ⊢; exact dK_congr hop h3
        · rw [if_neg hb] at h3 ⊢; exact h3
      · exact .inr ⟨dd, arr, h1, (hg g want dd hgd h1).symm.trans h2, h3⟩

theorem Yv_keeps {P : Program} {ops : Array Oper} {o : Oper} {s : St} {v : V} {H' : Heap} (hw : writesB o.op = false) (h : Yv P ops o s v H') : H' = s.heap := by
  unfold Yv at h
  split at h
  · exact dK_keeps hw h
  · obtain ⟨d, b, _, _, h3⟩ | ⟨d, arr, _, _, _, h3⟩ := h
    · split at h3
      · exact dK_keeps hw h3
      · exact h3.2
    · exact h3
theorem Yv_pure {P : Program} {ops : Array Oper} {o : Oper} {slots : List V} {H G : Heap} {v : V} (hp : pureB o.op = true) (h : Yv P ops o ⟨slots, H⟩ v H) : Yv P ops o ⟨slots, G⟩ v G := by
  unfold Yv at h ⊢
  split at h
  · exact dK_pure hp h
  · obtain ⟨d, b, h1, h2, h3⟩ | ⟨d, arr, h1, h2, h3, _⟩ := h
    · refine .inl ⟨d, b, h1, h2, ?_⟩
      split at h3
      · rename_i hb; rw [if_pos hb]; exact dK_pure hp h3
      · rename_i hb; rw [if_neg hb]; exact ⟨h3.1, rfl⟩
    · exact .inr ⟨d, arr, h1, h2, h3, rfl⟩
theorem pure_keeps {op : Op} (h : pureB op = true) : writesB op = false := by
  cases op <;> first | rfl | (simp [pureB] at h)

theorem put_put {slots : List V} {H : Heap} {x y : Option Tmp} {v u : V} (h : ∀ d, x = some d → y ≠ some d) : ((⟨slots, H⟩ : St).put x v).put y u = ((⟨slots, H⟩ : St).put y u).put x v := by
  cases x with
  | none => rfl
  | some d =>
    cases y with
    | none => rfl
    | some d' =>
      have : d ≠ d' := fun e => h d rfl (by rw [e])
      simp only [St.put]
      rw [List.set_comm _ _ this]
theorem put_heap (slots : List V) (H : Heap) (x : Option Tmp) (v : V) : ((⟨slots, H⟩ : St).put x v).heap = H := by cases x <;> rfl
theorem put_slots (slots : List V) (H G : Heap) (x : Option Tmp) (v : V) : ((⟨slots, H⟩ : St).put x v).slots = ((⟨slots, G⟩ : St).put x v).slots := by cases x <;> rfl
theorem st_eta (slots : List V) (H G : Heap) (x : Option Tmp) (v : V) : (⟨((⟨slots, H⟩ : St).put x v).slots, G⟩ : St) = (⟨slots, G⟩ : St).put x v := by cases x <;> rfl

theorem chain_swap {P : Program} {ops : Array Oper} {x y : Oper} {rest : List Oper} {s : St} {K : St → Prop} (hap : x.apart ops y = true) (hc : commB x.op y.op = true) (h : chain P ops (x :: y :: rest) s K) : chain P ops (y :: x :: rest) s K := by
  obtain ⟨v, H1, h1, u, H2, h2, h3⟩ := h
  obtain ⟨slots, H⟩ := s
  obtain ⟨a1, a2, a3⟩ := Oper.apart_spec hap
  have fin : ∀ G, Yv P ops y ⟨slots, H⟩ u G → Yv P ops x (after y ⟨slots, H⟩ u G) v H2 → chain P ops (y :: x :: rest) ⟨slots, H⟩ K := by
    intro G k1 k2
    refine ⟨u, G, k1, v, H2, k2, ?_⟩
    have e : after x (after y ⟨slots, H⟩ u G) v H2 = after y (after x ⟨slots, H⟩ v H1) u H2 := by
      simp only [after, st_eta]
      exact (put_put a2).symm
    rw [e]; exact h3
  -- y's value, as seen before x
  have hy : Yv P ops y ⟨slots, H1⟩ u H2 := (Yv_slots (slots := slots) (H := H1) (u := v) a1 _ rfl).2 (by
    have : (⟨((⟨slots, H1⟩ : St).put x.dst v).slots, H1⟩ : St) = after x ⟨slots, H⟩ v H1 := by simp only [after]; cases x.dst <;> rfl
    rw [this]; exact h2)
  have seen : ∀ (G F : Heap), Yv P ops x ⟨slots, G⟩ v F → Yv P ops x (after y ⟨slots, H⟩ u G) v F := fun G F hx => by
    have := (Yv_slots (slots := slots) (H := G) (u := u) (d := y.dst) a3 _ rfl).1 hx
    have e : (⟨((⟨slots, G⟩ : St).put y.dst u).slots, G⟩ : St) = after y ⟨slots, H⟩ u G := by simp only [after]; cases y.dst <;> rfl
    rwa [e] at this
  simp only [commB, Bool.or_eq_true, Bool.and_eq_true, Bool.not_eq_true'] at hc
  rcases hc with (hc | hc) | ⟨hc1, hc2⟩
  · have e1 : H1 = H := Yv_keeps (pure_keeps hc) h1
    subst e1
    exact fin H2 hy (seen H2 H2 (Yv_pure hc h1))
  · have e2 : H2 = H1 := Yv_keeps (pure_keeps hc) hy
    subst e2
    exact fin H (Yv_pure hc hy) (seen H H2 h1)
  · have e1 : H1 = H := Yv_keeps hc1 h1
    have e2 : H2 = H1 := Yv_keeps hc2 hy
    subst e2; subst e1
    exact fin H2 hy (seen H2 H2 h1)

theorem chain_mono {P : Program} {ops : Array Oper} {l l' : List Oper} (h : ∀ s K, chain P ops l s K → chain P ops l' s K) (x : Oper) {s : St} {K : St → Prop} (hc : chain P ops (x :: l) s K) : chain P ops (x :: l') s K := by
  obtain ⟨v, H, h1, h2⟩ := hc
  exact ⟨v, H, h1, h _ _ h2⟩
theorem chain_front {P : Program} {ops : Array Oper} {y : Oper} {l2 : List Oper} : ∀ {l1 : List Oper} {s : St} {K : St → Prop}, (∀ x ∈ l1, x.apart ops y = true ∧ commB x.op y.op = true) → chain P ops (l1 ++ y :: l2) s K → chain P ops (y :: (l1 ++ l2)) s K
  | [], s, K, _, h => h
  | x :: l1, s, K, hx, h => by
    have h1 : chain P ops (x :: y :: (l1 ++ l2)) s K := chain_mono (fun s K hc => chain_front (fun z hz => hx z (List.mem_cons_of_mem _ hz)) hc) x h
    have := chain_swap (hx x (by simp)).1 (hx x (by simp)).2 h1
    exact this

section
variable {P : Program} {w0 : World} {O M : Nat → Prop} {s : St} {loc : Nat → Value} {a : Act} {w : World} {o : Oper}

theorem dK_sound {v : V} {H' : Heap} (h : dK P o (ev s.slots) s.heap (fun u G => u = v ∧ G = H')) (S : SimAt w0 O M s.heap loc s.slots a.tmps.toList w) {next : Act → World → Prop} {Q : Exit → Act → World → Prop}
    (hn : ∀ loc' x w', SimAt w0 O M H' loc' s.slots a.tmps.toList w' → Rel (env w' O H' loc') x v → next (a.put o.dst x) w') : o.wp P a w next Q := by
  have viaR : stepR P o s (fun u s' => u = v ∧ s' = ⟨s.slots, H'⟩) → a.defers = a.defers → o.wp P a w next Q := by
    intro hr _
    have other : opK P o s (fun u s' => u = v ∧ s' = ⟨s.slots, H'⟩) → o.wp P a w next Q := fun h => (op_sound h S).wp (fun u s' x loc' w' h1 h2 h3 => by
      obtain ⟨rfl, rfl⟩ := h1
      exact hn loc' x w' h2 h3)
    unfold stepR at hr
    split at hr
    · rename_i x args argTypes hop
      obtain ⟨f, arr, hfx, hb, hc⟩ := hr w0 O M loc a.tmps.toList w (a.eval x) (args.toList.map a.eval) S (ev_rel S.vals x) (by
        refine ⟨by simp, fun i hi => ?_⟩
        have hi' : i < args.toList.length := by simpa using hi
        rw [getD_map_lt hi', getD_map_lt hi']; exact ev_rel S.vals _)
      have hrun : (execOp a.eval o).run P w = .ok (.enter f ((args.toList.map a.eval).toArray ++ arr)) w := by
        unfold execOp
        simp only [hop, resolve, Sem.run_bind, hfx, Deferred.ofValue, Sem.run_pure, Result.andThen_ok, invoke]
        rw [run_callFunc hb]
        congr 2
        apply Array.ext'
        simp
      unfold Oper.wp
      rw [hrun]
      refine hc.mono ?_
      rintro e w' ⟨u, s', y, loc', ⟨rfl, rfl⟩, rfl, S', hr⟩
      exact hn loc' y w' S' hr
    · exact other hr
  have viaV : ∀ {op : Op}, o.op = op → valK P op (ev s.slots) s.heap (fun u => u = v ∧ s.heap = H') → o.wp P a w next Q := by
    intro op ho hv
    exact (Steps1.val (K := fun u s' => (u = v ∧ s.heap = H') ∧ s' = s) ho (by simpa using hv) S).wp (fun u s' x loc' w' h1 h2 h3 => by
      obtain ⟨⟨rfl, e⟩, rfl⟩ := h1
      rw [e] at h2 h3
      exact hn loc' x w' h2 h3)
  unfold dK at h
  revert h
  cases hop : o.op with
  | call c =>
    obtain ⟨callee, args, argTypes⟩ := c
    cases callee with
    | value x =>
      rintro ⟨f, caps, us, r, h1, h2, h3, h4, h5, rfl, rfl⟩
      refine viaR ?_ rfl
      unfold stepR
      rw [hop]
      simp only
      rw [h1]
      exact CallS.fn h3 h2 h4 h5 ⟨rfl, rfl⟩
    | builtin b => exact viaV hop
    | invoke r m => exact viaV hop
  | buildSlice t n parts =>
    intro h
    refine viaR ?_ rfl
    unfold stepR opK
    rw [hop]
    simp only at h ⊢
    cases ht : slv P t with
    | none => rw [ht] at h; exact h.elim
    | some q =>
      obtain ⟨te, sz, by_⟩ := q
      rw [ht] at h
      obtain ⟨h1, h2, h3, h4, h5, h6, h7, h8, h9⟩ := h
      exact ⟨h1, h2, h3, h4, h5, h6, h7, .inl ⟨h8, by rw [← h9]⟩⟩
  | store t p x =>
    intro h
    refine viaR ?_ rfl
    unfold stepR opK
    rw [hop]
    simp only at h ⊢
    cases ht : tyv P t with
    | none => rw [ht] at h; exact h.elim
    | some q =>
      obtain ⟨ag, n⟩ := q
      rw [ht] at h
      simp only at h ⊢
      cases hp : ev s.slots p with
      | ptr id i fo =>
        rw [hp] at h
        simp only at h ⊢
        cases hl : look s.heap id with
        | none => rw [hl] at h; exact h.elim
        | some ob =>
          rw [hl] at h
          obtain ⟨h1, h2, h3, h4, h5, h6, h7, h8⟩ := h
          exact ⟨h1, h2, h3, h4, h5, h6, h7, by rw [h8]⟩
      | _ => rw [hp] at h; exact h.elim
  | _ => exact viaV hop

theorem Yv_sound {ops : Array Oper} {i : Nat} (hi : ops[i]? = some o) {v : V} {H' : Heap} (h : Yv P ops o s v H') (S : SimAt w0 O M s.heap loc s.slots a.tmps.toList w) (hd : a.defers = []) {K : Act → World → Prop} {Q : Exit → Act → World → Prop}
    (hn : ∀ loc' a' w', a'.defers = [] → SimAt w0 O M (after o s v H').heap loc' (after o s v H').slots a'.tmps.toList w' → K a' w') : wpOp P ops Q i K a w := by
  have go : dK P o (ev s.slots) s.heap (fun u G => u = v ∧ G = H') → o.wp P a w K Q := fun h => dK_sound h S fun loc' x w' S' hr => by
    obtain ⟨S'', hd'⟩ := put_sim (s := ⟨s.slots, H'⟩) S' hr o.dst
    exact hn loc' _ w' (hd'.trans hd) S''
  unfold wpOp
  simp only [hi]
  unfold Yv at h
  split at h
  · rename_i hg
    rw [if_pos (by simp [Region.wanted, hg])]
    exact .inl (go h)
  · rename_i j want hg
    obtain ⟨d, b, h1, h2, h3⟩ | ⟨d, arr, h1, h2, rfl, rfl⟩ := h
    case inr =>
      have hy : yielded ops a.tmps j = none := yielded_tuple h1 (by rw [← h2]; exact S.vals.getD d)
      rw [if_neg (by simp [Region.wanted, hg, hy])]
      obtain ⟨S'', hd'⟩ := put_sim S (Rel.sc undef) o.dst
      exact hn loc _ w (hd'.trans hd) S''
    have hx : a.tmps[d]? = some (.bool b) := by
      have := S.vals.getD d
      rw [h2] at this
      have e := Rel.sc_iff.1 this
      rw [List.getD_eq_getElem?_getD, Array.getElem?_toList] at e
      cases hq : a.tmps[d]? with
      | none => rw [hq] at e; simp [undef] at e
      | some y => rw [hq] at e; simp at e; rw [e]
    have hy : yielded ops a.tmps j = some b := by simp [yielded, h1, hx]
    by_cases hw : b = want
    · rw [if_pos hw] at h3
      rw [if_pos (by simp [Region.wanted, hg, hy, hw])]
      exact .inl (go h3)
    · rw [if_neg hw] at h3
      obtain ⟨rfl, rfl⟩ := h3
      rw [if_neg (by simp [Region.wanted, hg, hy, hw])]
      obtain ⟨S'', hd'⟩ := put_sim S (Rel.sc undef) o.dst
      exact hn loc _ w (hd'.trans hd) S''
end
end Go.AM
