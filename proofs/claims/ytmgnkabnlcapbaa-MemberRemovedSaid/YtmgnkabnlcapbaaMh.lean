/- Drawn regions in which several objects are made: heaps in another order. Own work; imports the kit's laws only. -/
import Derived.Test.YtmgnkabnlcapbaaMe
set_option linter.unusedVariables false
set_option linter.unusedSimpArgs false
set_option maxRecDepth 8000
set_option maxHeartbeats 1000000
namespace Go.AM
open V (Le LeL)
def HEq (H G : Heap) : Prop := ∀ id, look H id = look G id
theorem SimAt.heq {w0 : World} {O M : Nat → Prop} {H G : Heap} {loc : Nat → Value} {vs : List V} {xs : List Value} {w : World} (S : SimAt w0 O M H loc vs xs w) (h : HEq H G) : SimAt w0 O M G loc vs xs w := by
  have e : look H = look G := funext h
  have ee : env w O H loc = env w O G loc := by unfold env; rw [e]
  exact ⟨ee ▸ S.vals, fun id o ho => ee ▸ S.objs id o ((h id).trans ho), fun id id' b a1 a2 => S.dist id id' b (by rw [h id]; exact a1) (by rw [h id']; exact a2), fun id b a1 => S.own id b (by rw [h id]; exact a1), S.ext, S.O_lt⟩
def ExH (K : St → Prop) (s : St) : Prop := ∃ H, HEq H s.heap ∧ K ⟨s.slots, H⟩
theorem ExH.of {K : St → Prop} {s : St} (h : K s) : ExH K s := ⟨s.heap, fun _ => rfl, h⟩
theorem ExH.join {K : St → Prop} {s : St} (h : ExH (ExH K) s) : ExH K s := by
  obtain ⟨H, h1, G, h2, h3⟩ := h
  exact ⟨G, fun id => (h2 id).trans (h1 id), h3⟩
def quietB (o : Op) : Bool := !writesB o || newB o
section
variable {P : Program} {ops : Array Oper}
theorem look_new {d id : Nat} {ob : Obj} {H : Heap} : look ((d, ob) :: H) id = if id = d then some ob else look H id := by
  rw [look]
  by_cases e : d = id
  · subst e; simp
  · rw [if_neg e, if_neg (fun q => e q.symm)]
theorem dK_base {o : Oper} {e : Operand → V} {H H' G : Heap} {v : V} (hn : newB o.op = true) (h : dK P o e H (fun u F => u = v ∧ F = H')) (hG : ∀ d ob, H' = (d, ob) :: H → look G d = none) :
    ∃ d ob, look H d = none ∧ H' = (d, ob) :: H ∧ dK P o e G (fun u F => u = v ∧ F = (d, ob) :: G) := by
  unfold dK at h ⊢
  revert h hn
  cases o.op with
  | alloc t =>
    intro _ h
    simp only at h ⊢
    split at h
    · exact ⟨_, _, h.1, h.2.2.2.symm, hG _ _ h.2.2.2.symm, h.2.1, h.2.2.1, rfl⟩
    · exact h.elim
  | box t x =>
    intro _ h
    simp only at h ⊢
    split at h
    · exact ⟨_, _, h.1, h.2.2.2.symm, hG _ _ h.2.2.2.symm, h.2.1, h.2.2.1, rfl⟩
    · exact h.elim
  | _ => intro hn; simp [newB] at hn
theorem Yv_base {o : Oper} {slots : List V} {H H' G : Heap} {v : V} (hn : newB o.op = true) (h : Yv P ops o ⟨slots, H⟩ v H') (hG : ∀ d ob, H' = (d, ob) :: H → look G d = none) :
    (∃ d ob, look H d = none ∧ H' = (d, ob) :: H ∧ Yv P ops o ⟨slots, G⟩ v ((d, ob) :: G)) ∨ (H' = H ∧ Yv P ops o ⟨slots, G⟩ v G) := by
  unfold Yv at h ⊢
  cases hg : o.guard with
  | none =>
    rw [hg] at h
    obtain ⟨d, ob, h1, h2, h3⟩ := dK_base hn h hG
    exact .inl ⟨d, ob, h1, h2, h3⟩
  | some p =>
    obtain ⟨j, want⟩ := p
    rw [hg] at h
    obtain ⟨dd, b, h1, h2, h3⟩ | ⟨dd, arr, h1, h2, h3, h4⟩ := h
    · by_cases hb : b = want
      · rw [if_pos hb] at h3
        obtain ⟨d, ob, k1, k2, k3⟩ := dK_base hn h3 hG
        exact .inl ⟨d, ob, k1, k2, .inl ⟨dd, b, h1, h2, by rw [if_pos hb]; exact k3⟩⟩
      · rw [if_neg hb] at h3
        exact .inr ⟨h3.2, .inl ⟨dd, b, h1, h2, by rw [if_neg hb]; exact ⟨h3.1, rfl⟩⟩⟩
    · exact .inr ⟨h4, .inr ⟨dd, arr, h1, h2, h3, rfl⟩⟩
theorem after_slots (o : Oper) (slots : List V) (H G H' G' : Heap) (v : V) : (after o ⟨slots, H⟩ v H').slots = (after o ⟨slots, G⟩ v G').slots := by simp only [after]; cases o.dst <;> rfl
theorem after_heap (o : Oper) (s : St) (v : V) (H' : Heap) : (after o s v H').heap = H' := by simp only [after]; cases o.dst <;> rfl
theorem st_of {s : St} {H : Heap} (h : s.heap = H) : s = ⟨s.slots, H⟩ := by subst h; rfl
theorem after_eta (o : Oper) (slots : List V) (H H' G : Heap) (v : V) : (⟨(after o ⟨slots, H⟩ v H').slots, G⟩ : St) = after o ⟨slots, H⟩ v G := by simp only [after]; cases o.dst <;> rfl
theorem chain_to {l : List Oper} : ∀ {s : St} {K K' : St → Prop}, (∀ s, K s → K' s) → chain P ops l s K → chain P ops l s K' := by
  induction l with
  | nil => intro s K K' h k; exact h s k
  | cons o l ih => intro s K K' h k; obtain ⟨v, H', h1, h2⟩ := k; exact ⟨v, H', h1, ih h h2⟩
theorem chain_heq : ∀ {l : List Oper} {slots : List V} {H G : Heap} {K : St → Prop}, (∀ o ∈ l, quietB o.op = true) → HEq H G → chain P ops l ⟨slots, H⟩ K → chain P ops l ⟨slots, G⟩ (ExH K)
  | [], slots, H, G, K, _, hH, h => ⟨H, hH, h⟩
  | o :: l, slots, H, G, K, hq, hH, h => by
    obtain ⟨v, H', h1, h2⟩ := h
    have hmore : ∀ id ob, look H id = some ob → look G id = some ob := fun id ob q => by rw [← hH id]; exact q
    have go : ∀ F F', HEq F F' → (after o ⟨slots, H⟩ v H') = after o ⟨slots, H⟩ v F → chain P ops l (after o ⟨slots, G⟩ v F') (ExH K) := fun F F' hF e => by
      rw [e] at h2
      have e1 : after o ⟨slots, H⟩ v F = ⟨(after o ⟨slots, H⟩ v F).slots, F⟩ := (after_eta o slots H F F v).symm
      have e2 : after o ⟨slots, G⟩ v F' = ⟨(after o ⟨slots, H⟩ v F).slots, F'⟩ := by
        rw [after_slots o slots H G F F' v, after_eta]
      rw [e1] at h2
      rw [e2]
      exact chain_heq (fun z hz => hq z (by simp [hz])) hF h2
    have hqo := hq o (by simp)
    unfold quietB at hqo
    cases hn : newB o.op with
    | true =>
      rcases Yv_base (G := G) hn h1 (fun d ob e => by
        obtain ⟨d', ob', k1, k2⟩ : ∃ d' ob', look H d' = none ∧ H' = (d', ob') :: H := by
          rcases Yv_base (G := H) hn h1 (fun d ob e => by
            cases hx : look H d with
            | none => rfl
            | some o2 =>
              exfalso
              unfold Yv at h1
              split at h1
              · obtain ⟨d2, ob2, q1, q2⟩ := newB_dK hn h1
                rw [q2] at e; cases e; rw [q1] at hx; cases hx
              · rcases h1 with ⟨_, b, _, _, h3⟩ | ⟨_, _, _, _, _, h3⟩
                · split at h3
                  · obtain ⟨d2, ob2, q1, q2⟩ := newB_dK hn h3
                    rw [q2] at e; cases e; rw [q1] at hx; cases hx
                  · have := congrArg List.length (h3.2.symm.trans e); simp at this
                · have := congrArg List.length (h3.symm.trans e); simp at this) with ⟨d', ob', k1, k2, _⟩ | ⟨k, _⟩
          · exact ⟨d', ob', k1, k2⟩
          · have := congrArg List.length (k.symm.trans e); simp at this
        rw [k2] at e; cases e
        rw [← hH]; exact k1) with ⟨d, ob, k1, k2, k3⟩ | ⟨k2, k3⟩
      · exact ⟨v, _, k3, go ((d, ob) :: H) ((d, ob) :: G) (fun id => by rw [look_new, look_new, hH id]) (by rw [k2])⟩
      · exact ⟨v, _, k3, go H G hH (by rw [k2])⟩
    | false =>
      have hw : writesB o.op = false := by rw [hn, Bool.or_false] at hqo; simpa using hqo
      have e1 := Yv_keeps hw h1
      have h1' : Yv P ops o ⟨slots, H⟩ v H := by rw [e1] at h1; exact h1
      exact ⟨v, G, Yv_more hmore hw h1', go H G hH (by rw [e1])⟩
def commU (x y : Op) : Bool := commB x y || (newB x && newB y)
theorem chain_swapU {x y : Oper} {rest : List Oper} {s : St} {K : St → Prop} (hap : x.apart ops y = true) (hc : commU x.op y.op = true) (hq : ∀ o ∈ rest, quietB o.op = true) (h : chain P ops (x :: y :: rest) s K) : chain P ops (y :: x :: rest) s (ExH K) := by
  cases hcb : commB x.op y.op with
  | true => exact chain_to (fun _ => ExH.of) (chain_swap hap hcb h)
  | false =>
    unfold commU at hc
    rw [hcb, Bool.false_or, Bool.and_eq_true] at hc
    obtain ⟨n1, n2⟩ := hc
    obtain ⟨v, H1, h1, u, H2, h2, h3⟩ := h
    obtain ⟨slots, H⟩ := s
    obtain ⟨a1, a2, a3⟩ := Oper.apart_spec hap
    have hy : Yv P ops y ⟨slots, H1⟩ u H2 := (Yv_slots (slots := slots) (H := H1) (u := v) a1 _ rfl).2 (by
      have : (⟨((⟨slots, H1⟩ : St).put x.dst v).slots, H1⟩ : St) = after x ⟨slots, H⟩ v H1 := by simp only [after]; cases x.dst <;> rfl
      rw [this]; exact h2)
    have seen : ∀ (G F : Heap), Yv P ops x ⟨slots, G⟩ v F → Yv P ops x (after y ⟨slots, H⟩ u G) v F := fun G F hx => by
      have := (Yv_slots (slots := slots) (H := G) (u := u) (d := y.dst) a3 _ rfl).1 hx
      have e : (⟨((⟨slots, G⟩ : St).put y.dst u).slots, G⟩ : St) = after y ⟨slots, H⟩ u G := by simp only [after]; cases y.dst <;> rfl
      rwa [e] at this
    have fin : ∀ G F, Yv P ops y ⟨slots, H⟩ u G → Yv P ops x ⟨slots, G⟩ v F → HEq H2 F → chain P ops (y :: x :: rest) ⟨slots, H⟩ (ExH K) := by
      intro G F k1 k2 k3
      refine ⟨u, G, k1, v, F, seen G F k2, ?_⟩
      have e1 : after y (after x ⟨slots, H⟩ v H1) u H2 = ⟨(after y (after x ⟨slots, H⟩ v H1) u H2).slots, H2⟩ := st_of (after_heap y (after x ⟨slots, H⟩ v H1) u H2)
      have e2 : after x (after y ⟨slots, H⟩ u G) v F = ⟨(after y (after x ⟨slots, H⟩ v H1) u H2).slots, F⟩ := by
        have e3 : (after x (after y ⟨slots, H⟩ u G) v F).slots = (after y (after x ⟨slots, H⟩ v H1) u H2).slots := by
          have e4 : after x (after y ⟨slots, H⟩ u G) v F = after y (after x ⟨slots, H⟩ v F) u F := by
            simp only [after, st_eta]
            exact (put_put a2).symm
          rw [e4]
          have e5 : (after x ⟨slots, H⟩ v F).slots = (after x ⟨slots, H⟩ v H1).slots := after_slots _ _ _ _ _ _ _
          have e6 : ∀ s t : St, s.slots = t.slots → (after y s u F).slots = (after y t u H2).slots := by
            rintro ⟨s1, s2⟩ ⟨t1, t2⟩ q
            dsimp only at q; subst q
            exact after_slots _ _ _ _ _ _ _
          exact e6 _ _ e5
        rw [← e3]
        exact st_of (after_heap x (after y ⟨slots, H⟩ u G) v F)
      rw [e1] at h3
      rw [e2]
      exact chain_heq hq k3 h3
    have base : ∀ {o : Oper} {A B : Heap} {z : V}, newB o.op = true → Yv P ops o ⟨slots, A⟩ z B → ∀ d ob, B = (d, ob) :: A → look A d = none := by
      intro o A B z hn hY d ob e
      cases hx : look A d with
      | none => rfl
      | some o2 =>
        exfalso
        unfold Yv at hY
        split at hY
        · obtain ⟨d2, ob2, q1, q2⟩ := newB_dK hn hY
          rw [q2] at e; cases e; rw [q1] at hx; cases hx
        · rcases hY with ⟨_, b, _, _, k⟩ | ⟨_, _, _, _, _, k⟩
          · split at k
            · obtain ⟨d2, ob2, q1, q2⟩ := newB_dK hn k
              rw [q2] at e; cases e; rw [q1] at hx; cases hx
            · have := congrArg List.length (k.2.symm.trans e); simp at this
          · have := congrArg List.length (k.symm.trans e); simp at this
    rcases Yv_base (G := H) n1 h1 (base n1 h1) with ⟨d, ob, p1, p2, _⟩ | ⟨p2, _⟩
    · subst p2
      rcases Yv_base (G := H) n2 hy (fun d' ob' e => by
        have := base n2 hy d' ob' e
        rw [look_new] at this
        split at this
        · cases this
        · exact this) with ⟨d', ob', r1, r2, r3⟩ | ⟨r2, r3⟩
      · subst r2
        have hne : d' ≠ d := by
          intro e
          rw [look_new, if_pos e] at r1; cases r1
        rcases Yv_base (G := (d', ob') :: H) n1 h1 (fun d2 ob2 e => by
          injection e with e1 e2
          injection e1 with e3 e4
          subst e3
          rw [look_new, if_neg (fun q => hne q.symm)]; exact p1) with ⟨d2, ob2, _, q2, q3⟩ | ⟨q2, _⟩
        · injection q2 with e1 e2
          injection e1 with e3 e4
          subst e3; subst e4
          refine fin _ _ r3 q3 fun id => ?_
          rw [look_new, look_new, look_new, look_new]
          by_cases c1 : id = d' <;> by_cases c2 : id = d
          · exact absurd (c1.symm.trans c2) hne
          · rw [if_pos c1, if_neg c2, if_pos c1]
          · rw [if_neg c1, if_pos c2, if_pos c2]
          · rw [if_neg c1, if_neg c2, if_neg c2, if_neg c1]
        · have := congrArg List.length q2; simp at this
      · subst r2
        refine fin H _ r3 h1 fun _ => rfl
    · subst p2
      rcases Yv_base (G := H1) n2 hy (base n2 hy) with ⟨d', ob', r1, r2, r3⟩ | ⟨r2, r3⟩
      · subst r2
        rcases Yv_base (G := (d', ob') :: H1) n1 h1 (fun d2 ob2 e => by have := congrArg List.length e; simp at this) with ⟨d2, ob2, _, q2, _⟩ | ⟨_, q3⟩
        · have := congrArg List.length q2; simp at this
        · exact fin _ _ r3 q3 fun _ => rfl
      · subst r2
        exact fin _ _ r3 h1 fun _ => rfl
theorem chain_frontU {y : Oper} {l2 : List Oper} : ∀ {l1 : List Oper} {s : St} {K : St → Prop}, (∀ x ∈ l1, x.apart ops y = true ∧ commU x.op y.op = true) → (∀ o ∈ l1 ++ l2, quietB o.op = true) → chain P ops (l1 ++ y :: l2) s K → chain P ops (y :: (l1 ++ l2)) s (ExH K)
  | [], s, K, _, _, h => chain_to (fun _ => ExH.of) h
  | x :: l1, s, K, hx, hq, h => by
    have h1 : chain P ops (x :: y :: (l1 ++ l2)) s (ExH K) := by
      obtain ⟨v, H', h1, h2⟩ := h
      exact ⟨v, H', h1, chain_frontU (fun z hz => hx z (by simp [hz])) (fun z hz => hq z (by rw [List.cons_append]; exact List.mem_cons_of_mem _ hz)) h2⟩
    have := chain_swapU (hx x (by simp)).1 (hx x (by simp)).2 (fun o ho => hq o (by rw [List.cons_append]; exact List.mem_cons_of_mem _ ho)) h1
    exact chain_to (fun _ => ExH.join) this
end
def drawU (ops : Array Oper) (m : Nat) : Bool :=
  (List.range ops.size).all fun j => match ops[j]? with
    | some oj => oj.after.all (fun e => !Region.binds .any e || decide (e.on < j)) && if j < m then (quietB oj.op && (List.range j).all fun i => match ops[i]? with
        | some oi => oj.after.any (fun e => Region.binds .any e && e.on == i) || (oi.apart ops oj && commU oi.op oj.op)
        | none => true)
        else oj.guard.isNone && (List.range j).all fun i => (upB ops 9 j).contains i
    | none => true
section
variable {ops : Array Oper} {m : Nat}
theorem drawU_lt (h : drawU ops m = true) {j : Nat} {oj : Oper} (hj : ops[j]? = some oj) : ∀ e ∈ oj.after, Region.binds .any e = true → e.on < j := by
  have h1 := List.all_eq_true.1 h j (List.mem_range.2 (Array.getElem?_eq_some_iff.1 hj).1)
  simp only [hj, Bool.and_eq_true] at h1
  intro e he hb
  have := (Array.all_eq_true'.1 h1.1) e he
  simpa [hb] using this
theorem drawU_comm (h : drawU ops m = true) {i j : Nat} {oi oj : Oper} (hi : ops[i]? = some oi) (hj : ops[j]? = some oj) (hij : i < j) (hjm : j < m) (hno : ∀ e ∈ oj.after, Region.binds .any e = true → e.on ≠ i) :
    oi.apart ops oj = true ∧ commU oi.op oj.op = true := by
  have h1 := List.all_eq_true.1 h j (List.mem_range.2 (Array.getElem?_eq_some_iff.1 hj).1)
  simp only [hj, Bool.and_eq_true, if_pos hjm] at h1
  have h2 := List.all_eq_true.1 h1.2.2 i (List.mem_range.2 hij)
  simp only [hi, Bool.or_eq_true, Bool.and_eq_true] at h2
  rcases h2 with h2 | h2
  · obtain ⟨e, he, h3⟩ := (Array.any_eq_true').1 h2
    simp only [Bool.and_eq_true, beq_iff_eq] at h3
    exact absurd h3.2 (hno e he h3.1)
  · exact h2
theorem drawU_quiet (h : drawU ops m = true) {j : Nat} {oj : Oper} (hj : ops[j]? = some oj) (hjm : j < m) : quietB oj.op = true := by
  have h1 := List.all_eq_true.1 h j (List.mem_range.2 (Array.getElem?_eq_some_iff.1 hj).1)
  simp only [hj, Bool.and_eq_true, if_pos hjm] at h1
  exact h1.2.1
theorem drawU_tail (h : drawU ops m = true) {j : Nat} {oj : Oper} (hj : ops[j]? = some oj) (hjm : m ≤ j) : oj.guard = none ∧ ∀ i, i < j → i ∈ upB ops 9 j := by
  have h1 := List.all_eq_true.1 h j (List.mem_range.2 (Array.getElem?_eq_some_iff.1 hj).1)
  simp only [hj, Bool.and_eq_true, if_neg (show ¬ j < m by omega)] at h1
  refine ⟨by simpa using h1.2.1, fun i hi => ?_⟩
  have := List.all_eq_true.1 h1.2.2 i (List.mem_range.2 hi)
  simpa using this
end
section
variable {P : Program} {w0 : World} {O M : Nat → Prop} {ops : Array Oper} {m : Nat}
theorem tail_soundU (hB : drawU ops m = true) {Q : Exit → Act → World → Prop} {K : St → Prop} (hQ : ∀ s' loc' a' w', K s' → a'.defers = [] → SimAt w0 O M s'.heap loc' s'.slots a'.tmps.toList w' → Q .normal a' w') :
    ∀ (r p : Nat) (listed : Array Bool) (s : St) (loc : Nat → Value) (a : Act) (w : World), m ≤ p → p + r = ops.size → listed.size = ops.size → (∀ i, i < p → listed.getD i false = true) → (∀ i, p ≤ i → i < ops.size → listed.getD i true = false) →
      evalR P ops (ops.toList.drop p) s K → a.defers = [] → SimAt w0 O M s.heap loc s.slots a.tmps.toList w → wpAny P .any ops Q r listed a w
  | 0, p, listed, s, loc, a, w, hmp, hpr, hsz, hl, hu, he, hd, S => by
    rw [List.drop_of_length_le (by rw [Array.length_toList]; omega)] at he
    refine ⟨?_, hQ s loc a w he hd S⟩
    apply List.eq_nil_iff_forall_not_mem.2
    intro j hj
    obtain ⟨h1, o, h2, _⟩ := mem_ready.1 hj
    have hjs := (Array.getElem?_eq_some_iff.1 h2).1
    have := hl j (by omega)
    rw [getD_tf (by omega) false true, h1] at this; cases this
  | r + 1, p, listed, s, loc, a, w, hmp, hpr, hsz, hl, hu, he, hd, S => by
    have hps : p < ops.size := by omega
    have hop : ops[p]? = some ops[p] := by simp [hps]
    have hcl : ClosedL ops listed := by
      intro k hk q hq
      have hkp : k < p := by
        rcases Nat.lt_or_ge k p with h | h
        · exact h
        · exfalso
          rcases Nat.lt_or_ge k ops.size with h2 | h2
          · have := hu k h h2
            rw [getD_tf (by omega) true false, hk] at this; cases this
          · have : listed.getD k false = false := by simp [Array.getD_eq_getD_getElem?, show listed.size ≤ k by omega]
            rw [hk] at this; cases this
      unfold predsB at hq
      have hok : ops[k]? = some ops[k] := by simp [show k < ops.size by omega]
      rw [hok] at hq
      simp only [List.mem_map, List.mem_filter] at hq
      obtain ⟨e, ⟨he', hb⟩, rfl⟩ := hq
      have := drawU_lt hB hok e (by simpa using he') hb
      exact hl _ (by omega)
    refine ⟨fun h0 => ?_, fun j hj => ?_⟩
    · exfalso
      have : p ∈ Region.ready .any ops listed := mem_ready.2 ⟨hu p (Nat.le_refl _) hps, ops[p], hop, fun e he' hb => hl _ (drawU_lt hB hop e he' hb)⟩
      rw [h0] at this; cases this
    · obtain ⟨h1, oj, h2, h3⟩ := mem_ready.1 hj
      have hjs := (Array.getElem?_eq_some_iff.1 h2).1
      have hjp : j = p := by
        rcases Nat.lt_trichotomy j p with h | h | h
        · have := hl j h
          rw [getD_tf (by omega) false true, h1] at this; cases this
        · exact h
        · have := up_listed hcl 9 j (ready_preds h2 h3) p ((drawU_tail hB h2 (by omega)).2 p h)
          rw [getD_tf (by omega) false true, hu p (Nat.le_refl _) hps] at this; cases this
      subst hjp
      obtain ⟨hg, _⟩ := drawU_tail hB h2 hmp
      rw [List.drop_eq_getElem_cons (by rw [Array.length_toList]; exact hps)] at he
      have ho : ops.toList[j]'(by rw [Array.length_toList]; exact hps) = oj := by
        have := (Array.getElem?_eq_some_iff.1 h2).2
        simpa using this
      rw [ho] at he
      unfold evalR at he
      rw [hg] at he
      dsimp only at he
      unfold wpOp
      simp only [h2]
      rw [if_pos (by simp [Region.wanted, hg])]
      refine .inl (step_sound he hd S fun v s' loc' x w' hK S' hr => ?_)
      obtain ⟨S'', hd'⟩ := put_sim S' hr oj.dst
      refine tail_soundU hB hQ r (j + 1) _ _ loc' _ w' (by omega) (by omega) (by simpa using hsz) (fun i hi => ?_) (fun i hi his => ?_) hK (hd'.trans hd) S''
      · by_cases hij : i = j
        · subst hij; simp [Array.getD_eq_getD_getElem?, show i < listed.size by omega]
        · exact listed_mono (hl i (by omega))
      · have := hu i (by omega) his
        simpa [Array.getD_eq_getD_getElem?, Array.getElem?_setIfInBounds_ne (show j ≠ i by omega)] using this
theorem any_soundU (hB : drawU ops m = true) (hms : m ≤ ops.size) {Q : Exit → Act → World → Prop} {K : St → Prop} (hQ : ∀ s' loc' a' w', K s' → a'.defers = [] → SimAt w0 O M s'.heap loc' s'.slots a'.tmps.toList w' → Q .normal a' w') :
    ∀ (n : Nat) (listed : Array Bool) (s : St) (loc : Nat → Value) (a : Act) (w : World), listed.size = ops.size → ClosedL ops listed → (∀ i, m ≤ i → i < ops.size → listed.getD i true = false) → (unlM m listed).length = n →
      chain P ops ((unlM m listed).map fun i => ops.getD i default) s (ExH fun s' => evalR P ops (ops.toList.drop m) s' K) → a.defers = [] →
      SimAt w0 O M s.heap loc s.slots a.tmps.toList w → wpAny P .any ops Q (n + (ops.size - m)) listed a w
  | 0, listed, s, loc, a, w, hsz, hcl, hun, hn, hc, hd, S => by
    have e : unlM m listed = [] := List.eq_nil_of_length_eq_zero hn
    rw [e] at hc
    rw [Nat.zero_add]
    obtain ⟨H, hH, hc⟩ := hc
    refine tail_soundU hB hQ (ops.size - m) m listed ⟨s.slots, H⟩ loc a w (Nat.le_refl _) (by omega) hsz (fun i hi => ?_) hun hc hd (S.heq fun id => (hH id).symm)
    cases hq : listed.getD i true with
    | true => rw [getD_tf (by omega) false true]; exact hq
    | false =>
      have : i ∈ unlM m listed := mem_unlM.2 ⟨hi, hq⟩
      rw [e] at this; cases this
  | n + 1, listed, s, loc, a, w, hsz, hcl, hun, hn, hc, hd, S => by
    obtain ⟨i0, l0, hl0⟩ : ∃ i l, unlM m listed = i :: l := by
      cases hq : unlM m listed with
      | nil => rw [hq] at hn; cases hn
      | cons i l => exact ⟨i, l, rfl⟩
    have hi0 : i0 ∈ unlM m listed := by rw [hl0]; simp
    obtain ⟨g1, g2⟩ := mem_unlM.1 hi0
    have hs0 := unlM_sorted m listed
    rw [hl0, List.pairwise_cons] at hs0
    rw [show n + 1 + (ops.size - m) = (n + (ops.size - m)) + 1 by omega]
    refine ⟨fun h0 => ?_, fun j hj => ?_⟩
    · exfalso
      have hop : ops[i0]? = some ops[i0] := by simp [show i0 < ops.size by omega]
      have : i0 ∈ Region.ready .any ops listed := mem_ready.2 ⟨g2, ops[i0], hop, fun e he hb => by
        have hlt := drawU_lt hB hop e he hb
        cases hq : listed.getD e.on true with
        | true => rw [getD_tf (by omega) false true]; exact hq
        | false =>
          have : e.on ∈ unlM m listed := mem_unlM.2 ⟨by omega, hq⟩
          rw [hl0] at this
          rcases List.mem_cons.1 this with hm | hm
          · omega
          · have := hs0.1 _ hm; omega⟩
      rw [h0] at this; cases this
    · obtain ⟨h1, oj, h2, h3⟩ := mem_ready.1 hj
      have hjs := (Array.getElem?_eq_some_iff.1 h2).1
      have hjm : j < m := by
        rcases Nat.lt_or_ge j m with h | h
        · exact h
        · exfalso
          have := up_listed hcl 9 j (ready_preds h2 h3) i0 ((drawU_tail hB h2 h).2 i0 (by omega))
          rw [getD_tf (by omega) false true, g2] at this; cases this
      have hmj : j ∈ unlM m listed := mem_unlM.2 ⟨hjm, h1⟩
      obtain ⟨l1, l2, hl⟩ := List.append_of_mem hmj
      have hs := unlM_sorted m listed
      rw [hl, List.pairwise_append] at hs
      have hgj : ops.getD j default = oj := by simp [Array.getD_eq_getD_getElem?, h2]
      rw [hl, List.map_append, List.map_cons, hgj] at hc
      have hlisted : ∀ e ∈ oj.after, Region.binds .any e = true → listed.getD e.on true = true := fun e he hb => by
        have h4 := h3 e he hb
        have hlt := drawU_lt hB h2 e he hb
        rw [getD_tf (by omega) true false]; exact h4
      have hin : ∀ i, i ∈ l1 ++ j :: l2 → i < m ∧ listed.getD i true = false := fun i hi => mem_unlM.1 (by rw [hl]; exact hi)
      have hgd : ∀ i, i < m → ops[i]? = some (ops.getD i default) := fun i q1 => by simp [Array.getD_eq_getD_getElem?, show i < ops.size by omega]
      have hf := chain_frontU (y := oj) (l1 := l1.map fun i => ops.getD i default) (l2 := l2.map fun i => ops.getD i default) (fun x hx => by
        obtain ⟨i, hi, rfl⟩ := List.mem_map.1 hx
        have hij : i < j := hs.2.2 i hi j (by simp)
        obtain ⟨q1, q2⟩ := hin i (by simp [hi])
        refine drawU_comm hB (hgd i q1) h2 hij hjm fun e he hb heq => ?_
        have := hlisted e he hb
        rw [heq, q2] at this; cases this) (fun x hx => by
        rw [← List.map_append] at hx
        obtain ⟨i, hi, rfl⟩ := List.mem_map.1 hx
        have hi2 : i ∈ l1 ++ j :: l2 := by
          rcases List.mem_append.1 hi with q | q
          · exact List.mem_append.2 (.inl q)
          · exact List.mem_append.2 (.inr (List.mem_cons_of_mem _ q))
        exact drawU_quiet hB (hgd i (hin i hi2).1) (hin i hi2).1) hc
      rw [← List.map_append] at hf
      replace hf := chain_to (fun _ => ExH.join) hf
      obtain ⟨v, H', hY, hrest⟩ := hf
      have hset := unlM_set hl (show j < listed.size by omega)
      refine Yv_sound h2 hY S hd fun loc' a' w' hd' S' => ?_
      refine any_soundU hB hms hQ n _ _ loc' a' w' (by simpa using hsz) (closed_set hcl (ready_preds h2 h3)) (fun i hi his => ?_) ?_ (by rw [hset]; exact hrest) hd' S'
      · have := hun i hi his
        simpa [Array.getD_eq_getD_getElem?, Array.getElem?_setIfInBounds_ne (show j ≠ i by omega)] using this
      · rw [hset]
        have := congrArg List.length hl
        simp at this ⊢
        omega
theorem Runs.drawnU (m : Nat) {f : FuncId} {post : V → Heap → Prop} {k : List Item} {s : St} {id : Nat} {l : List Oper} (hm : P.follows .mixedOrders = true) (hB : drawU l.toArray m = true) (hml : m ≤ l.length)
    (h : evalD P l.toArray (l.take m) s fun s' => evalR P l.toArray (l.drop m) s' (Runs P f post k)) :
    Runs P f post (.code (.region id l.toArray true) :: k) s :=
  Runs.of_wp fun w0 O M loc a w hd S => by
    refine wp_region_any hm ?_
    have hu : unlM m (Array.replicate l.toArray.size false) = List.range m := by
      unfold unlM
      rw [List.filter_eq_self]
      intro i hi
      have : i < l.length := by have := List.mem_range.1 hi; omega
      simp [Array.getD_eq_getD_getElem?, this]
    have hmap : (List.range m).map (fun i => l.toArray.getD i default) = l.take m := by
      apply List.ext_getElem
      · simp; omega
      · intro i h1 h2
        have : i < l.length := by simp at h2; omega
        simp [Array.getD_eq_getD_getElem?, this]
    have hsm : l.toArray.size = m + (l.toArray.size - m) := by simp; omega
    have := any_soundU (P := P) (w0 := w0) (O := O) (M := M) (m := m) hB (by simpa using hml) (K := Runs P f post k) (Q := fun e a' w' => e = .normal ∧ ∃ s' loc', Runs P f post k s' ∧ a'.defers = [] ∧ SimAt w0 O M s'.heap loc' s'.slots a'.tmps.toList w')
      (fun s' loc' a' w' hR hd' S' => ⟨rfl, s', loc', hR, hd', S'⟩) m (Array.replicate l.toArray.size false) s loc a { w with drawn := w.drawn + 1 } (by simp) (by
        intro k hk
        exfalso
        have : (Array.replicate l.toArray.size false).getD k false = false := by
          simp only [Array.getD_eq_getD_getElem?, Array.getElem?_replicate]; split <;> rfl
        rw [hk] at this; cases this) (fun i _ hi => by simp only [Array.getD_eq_getD_getElem?, Array.getElem?_replicate]; rw [if_pos hi]; rfl) (by rw [hu]; simp) (by rw [hu, hmap]; exact chain_to (fun _ => ExH.of) (chain_of_evalD (by simpa using h))) hd
      (S.grows (Grows.drew w))
    rw [← hsm] at this
    exact this
end
end Go.AM
