/- The abstract machine: Sv, Su, Sw. Own work; imports the kit's laws only. -/
import Derived.Test.YtndpgjcmmjeoiaaGreatMd
import Derived.Laws.Externs
import Derived.ChangeKeysEq
set_option linter.unusedVariables false
set_option linter.unusedSimpArgs false
namespace Go.AM
open V (Le LeL)
namespace V
def see (H : Heap) : Nat → V → V
  | 0, v => if v.data = true then v else .any
  | n + 1, v => match v with
    | .agg cs => .agg (cs.map (see H n))
    | .fn f cs => .fn f (cs.map (see H n))
    | .own id => match look H id with
      | some (.lst _ _ es) => .sl false es
      | _ => .any
    | .ptr id i fo => match look H id with
      | some (.var _ u) => if i = 0 ∧ fo = 0 then .pt (match u with | .agg cs => .agg (cs.map (see H n)) | u => see H n u) else .any
      | _ => .any
    | .mp id => match look H id with
      | some (.map ks vs) => .dmp ks vs
      | _ => .any
    | v => if v.data = true then v else .any
mutual
/-- No address within. -/
def flat : V → Bool
  | .sc _ | .any | .junk => true
  | .agg cs => flatL cs
  | .tup cs => flatL cs
  | _ => false
def flatL : List V → Bool
  | [] => true
  | v :: vs => flat v && flatL vs
end
theorem flatL_iff {vs : List V} : flatL vs = true ↔ ∀ v ∈ vs, flat v = true := by
  induction vs with
  | nil => simp [flatL]
  | cons v vs ih => simp [flatL, ih]
theorem flatL_getD {vs : List V} (h : flatL vs = true) (i : Nat) : flat (vs.getD i .any) = true := by
  by_cases hi : i < vs.length
  · rw [List.getD_eq_getElem?_getD, List.getElem?_eq_getElem hi]; exact flatL_iff.1 h _ (List.getElem_mem hi)
  · rw [List.getD_eq_getElem?_getD, List.getElem?_eq_none (by omega)]; rfl
end V
theorem Rel.flat {E E' : Env} {x : Value} {v : V} (h : Rel E x v) (hf : v.flat = true) : Rel E' x v := by
  induction h with
  | sc x => exact .sc x
  | any x => exact .any x
  | junk x h => exact .junk x h
  | agg arr cs h _ ih => exact .agg arr cs h (fun i hi => ih i hi (V.flatL_getD (by simpa [V.flat] using hf) i))
  | tup arr cs h _ ih => exact .tup arr cs h (fun i hi => ih i hi (V.flatL_getD (by simpa [V.flat] using hf) i))
  | _ => simp [V.flat] at hf
section
variable {w0 : World} {O M : Nat → Prop} {H : Heap} {loc : Nat → Value} {vs : List V} {xs : List Value} {w : World}
theorem see_rel (S : SimAt w0 O M H loc vs xs w) : ∀ (n : Nat) {x : Value} {v : V}, Rel (env w O H loc) x v → Rel (env w O [] loc) x (v.see H n) ∧ (v.see H n).data = true := by
  have hF : ∀ b, (env w O H loc).F b → (env w O [] loc).F b ∧ (env w O [] loc).w.heap[b]? = (env w O H loc).w.heap[b]? := fun b hb => ⟨⟨hb.1, hb.2.1, fun id h => by simp [look] at h⟩, rfl⟩
  have hB : ∀ id b, (look H id).isSome = true → blk (loc id) = some b → (env w O [] loc).F b := fun id b h1 h2 => ⟨S.lt h1 h2, (S.own id b h1 h2).1, fun id h => by simp [look] at h⟩
  have base : ∀ {x : Value} {v : V}, Rel (env w O H loc) x v → Rel (env w O [] loc) x (if v.data = true then v else .any) ∧ (if v.data = true then v else .any : V).data = true := by
    intro x v h
    split
    · rename_i hd; exact ⟨h.data_mono hF hd, hd⟩
    · exact ⟨.any _, rfl⟩
  intro n
  induction n with
  | zero => intro x v h; exact base h
  | succ n ih =>
    intro x v h
    have getm : ∀ (cs : List V) (i : Nat), (cs.map (V.see H n)).getD i .any = V.see H n (cs.getD i .any) ∨ cs.length ≤ i := by
      intro cs i
      by_cases hi : i < cs.length
      · left; rw [getD_map_lt hi, List.getD_eq_getElem?_getD, List.getElem?_eq_getElem hi]; rfl
      · right; omega
    have dl : ∀ (arr : Array Value) (cs : List V), RelL (env w O H loc) arr.toList cs → V.dataL (cs.map (V.see H n)) = true ∧ RelL (env w O [] loc) arr.toList (cs.map (V.see H n)) := by
      intro arr cs hr
      refine ⟨V.dataL_iff.2 fun v hv => ?_, by simpa using hr.1, fun i hi => ?_⟩
      · obtain ⟨u, hu, rfl⟩ := List.mem_map.1 hv
        obtain ⟨i, hi, rfl⟩ := getD_mem hu
        exact (ih (hr.2 i hi)).2
      · rcases getm cs i with e | e
        · rw [e]; exact (ih (hr.2 i (by simpa using hi))).1
        · simp at hi; omega
    cases v with
    | agg cs =>
      obtain ⟨arr, rfl, hr⟩ := Rel.agg_iff.1 h
      obtain ⟨h1, h2⟩ := dl arr cs hr
      exact ⟨Rel.agg_iff.2 ⟨arr, rfl, h2⟩, h1⟩
    | fn f cs =>
      obtain ⟨arr, rfl, hr⟩ := Rel.fn_iff.1 h
      obtain ⟨h1, h2⟩ := dl arr cs hr
      exact ⟨Rel.fn_iff.2 ⟨arr, rfl, h2⟩, h1⟩
    | own id =>
      simp only [V.see]
      split
      · rename_i t sz es hl
        obtain ⟨ex, _⟩ := h.own_inv
        obtain ⟨k1, k2⟩ := S.freeze_lst id hl
        have hdes := (S.objs id _ hl).1.2
        refine ⟨?_, hdes⟩
        have := k2 _ _ h
        simp only [V.frz, if_true] at this
        refine this.data_mono (E := env w O (frzH id (.sl false es) .junk H) loc) (E' := env w O [] loc) (fun b hb => ⟨⟨hb.1, hb.2.1, fun id h => by simp [look] at h⟩, rfl⟩) hdes
      · exact ⟨.any _, rfl⟩
    | ptr id i fo =>
      simp only [V.see]
      split
      · rename_i t u hl
        split
        · rename_i h0
          obtain ⟨rfl, rfl⟩ := h0
          obtain ⟨o, g, rfl, a1, a2⟩ := h.ptr_inv
          have a1' : look H id = some o := a1
          rw [hl] at a1'; cases a1'
          obtain ⟨g', arr, e, hh, hr⟩ := S.objs id _ hl
          have e' : loc id = .pointer (some ⟨g', 0, none⟩) := e
          have hg : g' = g := by
            have : blk (loc id) = some g := a2
            rw [e'] at this; simpa [blk] using this
          subst hg
          have hpart : ∀ u' : V, u'.data = true → RelL (env w O [] loc) arr.toList u'.cells → Rel (env w O [] loc) (.pointer (some ⟨g', 0, none⟩)) (.pt u') := by
            intro u' hd hr'
            refine .pt u' g' 0 (fun k => arr.getD k undef) hd (hB id g' (by simp [hl]) (by rw [e']; rfl)) (fun k hk => ?_) (fun j hj => ?_)
            · have hk' : k < arr.size := by have := hr'.1; simp at this; omega
              show w.cell? _ = _
              rw [cell_of_row w g' _ arr t (0, 0) hh]
              simp [Array.getD_eq_getD_getElem?, hk']
            · have := hr'.2 j hj
              simpa [Array.getD_eq_getD_getElem?, List.getD_eq_getElem?_getD] using this
          have e0 : (0 : Nat) * (Obj.var t u).sz + 0 = 0 := by simp
          rw [e0]
          cases u with
          | agg cs =>
            obtain ⟨h1, h2⟩ := dl arr cs hr
            exact ⟨hpart _ h1 h2, h1⟩
          | _ =>
            have hone := hr.2 0 (by simp [V.cells])
            obtain ⟨q1, q2⟩ := ih hone
            refine ⟨hpart _ q2 ?_, q2⟩
            have hc : ∀ (v : V) (n : Nat), (∀ cs, v ≠ .agg cs) → (v.see H n).cells = [v.see H n] := by
              intro v n hv
              cases n <;> cases v <;> simp only [V.see] <;> (try (exact absurd rfl (hv _))) <;> (repeat' split) <;> rfl
            have hsz := hr.1
            simp only [V.cells] at hsz q1
            simp only [List.getD_cons_zero] at q1
            refine ⟨?_, fun i hi => ?_⟩
            · simp only [] at hsz ⊢
              rw [hc _ n (by intro cs h; cases h)]; simpa using hsz
            · rw [hc _ n (by intro cs h; cases h)] at hi ⊢
              have : i = 0 := by simpa using hi
              subst this
              exact q1
        · exact ⟨.any _, rfl⟩
      · exact ⟨.any _, rfl⟩
    | mp id =>
      simp only [V.see]
      split
      · rename_i ks vs' hl
        obtain ⟨g, arr, clk, e1, hg, ⟨h1, h2⟩, h3, h4, h5⟩ := S.objs id _ hl
        have e2 : x = loc id := by cases h; rfl
        have e1' : loc id = .map (some g) := e1
        rw [e2, e1']
        exact ⟨.dmp ks vs' g arr clk h4 (hB id g (by simp [hl]) (by rw [e1']; rfl)) hg h1 h2 h3 fun i hi => (h5 i hi).data_mono hF (V.dataL_getD h4 i), h4⟩
      · exact ⟨.any _, rfl⟩
    | _ => exact base h
end
theorem to_lent {w0 : World} {O M : Nat → Prop} {H : Heap} {loc : Nat → Value} {vs : List V} {xs : List Value} {w : World} (S : SimAt w0 O M H loc vs xs w) {us : List V} {ys : List Value} (hr : RelL (env w O [] loc) ys us) (hd : V.dataL us = true) :
    SimAt w O (Owned [] loc) [] loc us ys w :=
  ⟨hr, fun id o h => by simp [look] at h, fun id id' b h => by simp [look] at h, fun id b h => by simp [look] at h, Ext.refl w _, fun b h => Nat.lt_of_lt_of_le (S.O_lt b h) S.ext.size⟩
def See (H : Heap) (v u : V) : Prop := ∀ (w0 : World) (O M : Nat → Prop) (loc : Nat → Value) (vs : List V) (xs : List Value) (w : World), SimAt w0 O M H loc vs xs w → ∀ x, Rel (env w O H loc) x v → Rel (env w O [] loc) x u ∧ u.data = true
theorem See.of (H : Heap) (n : Nat) (v : V) : See H v (v.see H n) := fun w0 O M loc vs xs w S x h => see_rel S n h
theorem See.le {H : Heap} {v u u' : V} (h : See H v u) (hle : Le u u') (hd : u'.data = true) : See H v u' := fun w0 O M loc vs xs w S x hx => ⟨V.Rel_le hle (h w0 O M loc vs xs w S x hx).1, hd⟩
theorem See.data {H : Heap} {v u : V} (hle : Le v u) (hd : u.data = true) : See H v u := fun w0 O M loc vs xs w S x hx =>
  ⟨(V.Rel_le hle hx).data_mono (E := env w O H loc) (E' := env w O [] loc) (fun b hb => ⟨⟨hb.1, hb.2.1, fun id h => by simp [look] at h⟩, rfl⟩) hd, hd⟩
theorem See.own {H : Heap} {id : Nat} {t : TypeId} {sz : Nat} {es : List V} (h : look H id = some (.lst t sz es)) : See H (.own id) (.sl false es) := by
  have := See.of H 1 (.own id)
  simp only [V.see, h] at this
  exact this
theorem See.mp {H : Heap} {id : Nat} {ks : List Value} {vs : List V} (h : look H id = some (.map ks vs)) : See H (.mp id) (.dmp ks vs) := by
  have := See.of H 1 (.mp id)
  simp only [V.see, h] at this
  exact this
theorem See.varMp {H : Heap} {id k : Nat} {t : TypeId} {ks : List Value} {vs : List V} (h : look H id = some (.var t (.mp k))) (h2 : look H k = some (.map ks vs)) : See H (.ptr id 0 0) (.pt (.dmp ks vs)) := by
  have := See.of H 2 (.ptr id 0 0)
  simp only [V.see, h, h2, and_self, if_true] at this
  exact this
theorem See.varData {H : Heap} {id : Nat} {t : TypeId} {u : V} (h : look H id = some (.var t u)) (hd : u.data = true) : See H (.ptr id 0 0) (.pt u) := by
  intro w0 O M loc vs xs w S x hx
  obtain ⟨k1, k2⟩ := S.freeze_var id h hd
  have := k2 _ _ hx
  simp only [V.frz, if_true, and_self] at this
  exact ⟨this.data_mono (E := env w O (frzH id .junk (.pt u) H) loc) (E' := env w O [] loc) (fun b hb => ⟨⟨hb.1, hb.2.1, fun id h => by simp [look] at h⟩, rfl⟩) hd, hd⟩
def SeeL (H : Heap) (vs us : List V) : Prop := vs.length = us.length ∧ ∀ i, i < us.length → See H (vs.getD i .any) (us.getD i .any)
theorem SeeL.nil {H : Heap} : SeeL H [] [] := ⟨rfl, by simp⟩
theorem SeeL.cons {H : Heap} {v u : V} {vs us : List V} (h : See H v u) (hs : SeeL H vs us) : SeeL H (v :: vs) (u :: us) := by
  refine ⟨by simp [hs.1], fun i hi => ?_⟩
  cases i with
  | zero => simpa using h
  | succ i => simpa using hs.2 i (by simpa using hi)
theorem SeeL.rel {H : Heap} {vs us : List V} (h : SeeL H vs us) {w0 : World} {O M : Nat → Prop} {loc : Nat → Value} {vs' : List V} {xs' : List Value} {w : World} (S : SimAt w0 O M H loc vs' xs' w) {xs : List Value} (hr : RelL (env w O H loc) xs vs) :
    RelL (env w O [] loc) xs us ∧ V.dataL us = true := by
  refine ⟨⟨hr.1.trans h.1, fun i hi => (h.2 i hi w0 O M loc vs' xs' w S _ (hr.2 i (by rw [h.1]; exact hi))).1⟩, V.dataL_iff.2 fun u hu => ?_⟩
  obtain ⟨i, hi, rfl⟩ := getD_mem hu
  exact (h.2 i hi w0 O M loc vs' xs' w S _ (hr.2 i (by rw [h.1]; exact hi))).2
theorem See.fn {H : Heap} {f : FuncId} {cs ds : List V} (h : SeeL H cs ds) : See H (.fn f cs) (.fn f ds) := by
  intro w0 O M loc vs xs w S x hx
  obtain ⟨arr, rfl, hr⟩ := Rel.fn_iff.1 hx
  obtain ⟨h1, h2⟩ := h.rel S hr
  exact ⟨Rel.fn_iff.2 ⟨arr, rfl, h1⟩, h2⟩
theorem CallS.lend {P : Program} {s : St} {K : V → St → Prop} {f : FuncId} {caps vs us : List V} {r : V} (hs : Fn P f us r) (hb : hasBody P f) (hle : SeeL s.heap (vs ++ caps) us) (hf : r.flat = true) (hK : K r s) :
    CallS P (.fn f caps) vs s K := by
  intro w0 O M loc xs w fx ys S hx hy
  obtain ⟨arr, rfl, harr⟩ := Rel.fn_iff.1 hx
  refine .inl ⟨f, arr, rfl, .inl ⟨hb, ?_⟩⟩
  obtain ⟨hr', hd⟩ := hle.rel S (hy.append harr)
  have := hs w O _ loc (to_lent S hr' hd)
  rw [show ys.toArray ++ arr = (ys ++ arr.toList).toArray by simp]
  refine this.mono ?_
  rintro e w' ⟨r', H', x, loc', ⟨rfl, rfl⟩, rfl, S2⟩
  have hg : Grows w w' := ⟨S2.ext.os, S2.ext.tape, S2.ext.output, S2.ext.size, fun b hb _ => S2.ext.block b hb (by rintro ⟨id, h1, h2⟩; simp [look] at h1)⟩
  exact ⟨r', s, x, loc, hK, rfl, S.grows hg, (S2.vals.uncons).1.flat hf⟩
section
variable {P : Program} {rest : List Oper} {A : Array Oper} {H : Heap} {slots : List V} {K1 : St → Prop} {d : Option Tmp} {D : Tmp} {t : TypeId} {pos : String} {af : Array Edge}
theorem r_lend {f : FuncId} {args : Array Operand} {ats : Array TypeId} {x : Operand} {caps us : List V} {r : V} (hx : ev slots x = .fn f caps) (hs : Fn P f us r) (hb : hasBody P f)
    (hle : SeeL H (args.toList.map (ev slots) ++ caps) us) (hf : r.flat = true)
    (h : evalR P A rest ⟨(slots).set D r, H⟩ K1) : evalR P A (⟨some D, .call { callee := .value x, args := args, argTypes := ats }, t, pos, af, none⟩ :: rest) ⟨slots, H⟩ K1 := by
  refine r_call ?_
  rw [hx]
  exact CallS.lend hs hb hle hf h
def Gives (P : Program) (f : FuncId) (k : Nat) (us : List V) (t : TypeId) (sz : Nat) (es : List V) (Q : List V → Prop) : Prop :=
  Spec P f (.own k :: us) [(k, .lst t sz es)] fun r H' => ∃ es', Q es' ∧ r = .own k ∧ H' = [(k, .lst t sz es')]
theorem CallS.give {P : Program} {s : St} {K : V → St → Prop} {f : FuncId} {caps vs us es : List V} {k d : Nat} {t : TypeId} {sz : Nat} {Q : List V → Prop} (hs : Gives P f k us t sz es Q) (hb : hasBody P f) (hl : look s.heap d = some (.lst t sz es)) (hle : LeL (vs ++ caps) us) (hd : V.dataL us = true)
    (hK : ∀ es', Q es' → V.dataL es' = true → K (.own d) ⟨V.killL d s.slots, updK d (.lst t sz es') s.heap⟩) : CallS P (.fn f caps) (.own d :: vs) s K := by
  intro w0 O M loc xs w fx ys S hx hy
  obtain ⟨arr, rfl, harr⟩ := Rel.fn_iff.1 hx
  refine .inl ⟨f, arr, rfl, .inl ⟨hb, ?_⟩⟩
  obtain ⟨y, ys, rfl⟩ : ∃ y ys', ys = y :: ys' := by
    cases ys with
    | nil => exact absurd hy.1 (by simp)
    | cons y ys => exact ⟨y, ys, rfl⟩
  have hds : (look s.heap d).isSome = true := by simp [hl]
  have hr := (hy.uncons.2.append harr).le hle
  have hyx : y = loc d := (hy.uncons.1.own_inv).1
  -- the callee's simulation
  let O' : Nat → Prop := fun b => O b ∨ ∃ id, id ≠ d ∧ (look s.heap id).isSome = true ∧ blk (loc id) = some b
  have hF : ∀ b, (env w O s.heap loc).F b → (env w O' [(k, .lst t sz es)] (fun _ => loc d)).F b ∧ (env w O' [(k, .lst t sz es)] (fun _ => loc d)).w.heap[b]? = (env w O s.heap loc).w.heap[b]? := by
    intro b hb'
    refine ⟨⟨hb'.1, ?_, fun id hid => hb'.2.2 d hds⟩, rfl⟩
    rintro (h | ⟨id, _, h1, h2⟩)
    · exact hb'.2.1 h
    · exact hb'.2.2 id h1 h2
  have hob := S.objs d _ hl
  have S1 : SimAt w O' (Owned [(k, .lst t sz es)] (fun _ => loc d)) [(k, .lst t sz es)] (fun _ => loc d) (.own k :: us) (y :: (ys ++ arr.toList)) w := by
    refine ⟨RelL.cons ?_ ⟨hr.1, fun i hi => (hr.2 i hi).data_mono hF (V.dataL_getD hd i)⟩, ?_, ?_, ?_, Ext.refl w _, ?_⟩
    · have hv : ∃ a n c, loc d = .slice a n c := by rcases blk_own hob with ⟨g, c, e, _⟩ | ⟨e, _⟩ <;> exact ⟨_, _, _, e⟩
      rw [hyx]
      exact Rel.own (E := env w O' [(k, .lst t sz es)] (fun _ => loc d)) k (.lst t sz es) (look_eq k (.lst t sz es) []) rfl hv
    · intro id o ho
      obtain ⟨rfl, rfl⟩ := look_one ho
      obtain ⟨hz, xs', q, hf⟩ := hob
      exact ⟨hz, xs', q, hf.1, fun i j hi hj => (hf.2 i j hi hj).data_mono hF (V.data_getD_cells hz.2 i j)⟩
    · intro id id' b h1 h2 _ _
      rw [look_one' h1, look_one' h2]
    · intro id b h1 h2
      refine ⟨?_, .inr ⟨id, h1, h2⟩⟩
      rintro (h | ⟨id', hne, h3, h4⟩)
      · exact (S.own d b hds h2).1 h
      · exact hne (S.dist id' d b h3 hds h4 h2)
    · rintro b (h | ⟨id, _, h1, h2⟩)
      · exact Nat.lt_of_lt_of_le (S.O_lt b h) S.ext.size
      · exact S.lt h1 h2
  have := hs w O' _ _ S1
  rw [show (y :: ys).toArray ++ arr = (y :: (ys ++ arr.toList)).toArray by simp]
  refine this.mono ?_
  rintro e w' ⟨r', H', x, loc', ⟨es', hq, rfl, rfl⟩, rfl, S2⟩
  have hob2 := S2.objs k _ (look_eq k _ _)
  have hdes : V.dataL es' = true := hob2.1.2
  have hxe : x = loc' k := (S2.vals.uncons.1.own_inv).1
  have hM : ∀ b, Owned [(k, Obj.lst t sz es)] (fun _ => loc d) b → blk (loc d) = some b := fun b ⟨_, _, h⟩ => h
  have hext : Ext w (fun b => blk (loc d) = some b) w' := ⟨S2.ext.os, S2.ext.tape, S2.ext.output, S2.ext.size, fun b hb hn => S2.ext.block b hb (fun h => hn (hM b h))⟩
  have hnb : ∀ b, blk (loc' k) = some b → w.heap.size ≤ b ∨ blk (loc d) = some b := fun b hb => by
    rcases (S2.own k b (by simp [look]) hb).2 with h | h
    · exact .inl h
    · exact .inr (hM b h)
  obtain ⟨k1, k2⟩ := S.renew d _ (.lst t sz es') hl hext (loc' k) hnb (fun hrel => by
    obtain ⟨hz, ys', q, hfl⟩ := hob2
    refine ⟨hz, ys', ?_, hfl.1, fun i j hi hj => ?_⟩
    · show w'.ownsRow 0 t sz (if d = d then loc' k else loc d) _ _
      rw [if_pos rfl]; exact q
    · refine (hfl.2 i j hi hj).data_mono (E := env w' O' [(k, .lst t sz es')] loc') (E' := env w' O (updK d (.lst t sz es') s.heap) (fun j => if j = d then loc' k else loc j)) (fun b hb => ⟨⟨hb.1, fun h => hb.2.1 (.inl h), fun id h1 h2 => ?_⟩, rfl⟩) (V.data_getD_cells hz.2 i j)
      replace h2 : blk (if id = d then loc' k else loc id) = some b := h2
      by_cases e : id = d
      · rw [if_pos e] at h2; exact hb.2.2 k (by simp [look]) h2
      · rw [if_neg e] at h2
        rw [look_updK, if_neg e] at h1
        exact hb.2.1 (.inr ⟨id, e, by simpa using h1, h2⟩))
  refine ⟨.own d, _, x, _, hK es' hq hdes, rfl, k1, ?_⟩
  have hv : ∃ a n c, (env w' O (updK d (.lst t sz es') s.heap) (fun j => if j = d then loc' k else loc j)).loc d = .slice a n c := by
    rcases blk_own (k1.objs d (.lst t sz es') (by rw [look_updK, if_pos rfl, hl]; rfl)) with ⟨g, c, e, _⟩ | ⟨e, _⟩ <;> exact ⟨_, _, _, e⟩
  have := Rel.own (E := env w' O (updK d (.lst t sz es') s.heap) (fun j => if j = d then loc' k else loc j)) d (.lst t sz es') (by show look _ _ = _; rw [look_updK, if_pos rfl, hl]; rfl) rfl hv
  rw [hxe]
  simpa [env] using this
theorem r_own {f : FuncId} {args : Array Operand} {ats : Array TypeId} {x : Operand} {caps us : List V} {te : TypeId} {sz : Nat} {Q : List V → Prop} (hx : ev slots x = .fn f caps) (hs : Spec P f us [] (OwnPost te sz Q)) (hb : hasBody P f)
    (hle : LeL (args.toList.map (ev slots) ++ caps) us) (hd : V.dataL us = true) (hf : look H D = none)
    (h : ∀ es, Q es → V.dataL es = true → evalR P A rest ⟨(slots).set D (.own D), (D, .lst te sz es) :: H⟩ K1) : evalR P A (⟨some D, .call { callee := .value x, args := args, argTypes := ats }, t, pos, af, none⟩ :: rest) ⟨slots, H⟩ K1 := by
  refine r_call ?_
  rw [hx]
  exact CallS.own (s := ⟨slots, H⟩) D hs hb hle hd hf h
theorem r_give {f : FuncId} {args : Array Operand} {ats : Array TypeId} {x : Operand} {caps us ws es es' : List V} {k d' : Nat} {te : TypeId} {sz : Nat} (hx : ev slots x = .fn f caps) (hs : Gives P f k us te sz es (fun l => l = es')) (hb : hasBody P f)
    (ha : args.toList.map (ev slots) = .own d' :: ws) (hl : look H d' = some (.lst te sz es)) (hle : LeL (ws ++ caps) us) (hd : V.dataL us = true)
    (h : evalR P A rest ⟨(V.killL d' slots).set D (.own d'), updK d' (.lst te sz es') H⟩ K1) : evalR P A (⟨some D, .call { callee := .value x, args := args, argTypes := ats }, t, pos, af, none⟩ :: rest) ⟨slots, H⟩ K1 := by
  refine r_call ?_
  rw [hx, ha]
  exact CallS.give (s := ⟨slots, H⟩) hs hb hl hle hd fun l hq _ => by subst hq; exact h
def Turns (P : Program) (f : FuncId) (t : TypeId) (zs zs' : List Int) : Prop :=
  ∀ (w : World) (x : Value), w.ownsRow 0 t 1 x zs.length (zs.map (Value.int .i64)) → Calls P f #[x] w fun e w' => e = .returned (.tuple #[]) ∧ w'.ownsRow 0 t 1 x zs'.length (zs'.map (Value.int .i64)) ∧ Ext w (fun b => blk x = some b) w'
theorem lst_ints {E : Env} {id : Nat} {t : TypeId} {zs : List Int} {x : Value} (hx : E.loc id = x) : ObjOK E id (.lst t 1 (zs.map .i)) ↔ E.w.ownsRow 0 t 1 x zs.length (zs.map (Value.int .i64)) := by
  subst hx
  constructor
  · rintro ⟨_, xs, h1, h2⟩
    have hl : xs.length = zs.length := by simpa using h1.1
    have : xs = zs.map (Value.int .i64) := by
      apply List.ext_getElem (by simpa using hl)
      intro i a1 a2
      have hi : i < zs.length := by omega
      have := h2.2 i 0 (by simpa using hi) (by decide)
      simp only [Nat.mul_one, Nat.add_zero] at this
      rw [getD_map_lt hi] at this
      have := Rel.sc_iff.1 this
      rw [List.getD_eq_getElem?_getD, List.getElem?_eq_getElem a1] at this
      simpa using this
    subst this
    simpa using h1
  · intro h
    refine ⟨⟨by decide, dataL_map _ _ fun _ => rfl⟩, _, by simpa using h, fun i hi => ?_, fun i j hi hj => ?_⟩
    · have hi' : i < zs.length := by simpa using hi
      rw [getD_map_lt hi']; rfl
    · have hi' : i < zs.length := by simpa using hi
      have hj' : j = 0 := by omega
      subst hj'
      simp only [Nat.mul_one, Nat.add_zero]
      rw [getD_map_lt hi', getD_map_lt hi']
      exact .sc _
theorem CallS.turn {P : Program} {s : St} {K : V → St → Prop} {f : FuncId} {d : Nat} {t : TypeId} {zs zs' : List Int} (hs : Turns P f t zs zs') (hb : hasBody P f) (hl : look s.heap d = some (.lst t 1 (zs.map .i)))
    (hK : K (.tup []) ⟨s.slots, upd s.heap d (.lst t 1 (zs'.map .i))⟩) : CallS P (.fn f []) [.own d] s K := by
  intro w0 O M loc xs w fx ys S hx hy
  obtain ⟨arr, rfl, harr⟩ := Rel.fn_iff.1 hx
  have harr0 : arr = #[] := by
    have := harr.1
    simpa using this
  subst harr0
  refine .inl ⟨f, #[], rfl, .inl ⟨hb, ?_⟩⟩
  obtain ⟨y, rfl⟩ : ∃ y, ys = [y] := List.length_eq_one_iff.1 hy.1
  have hyx : y = loc d := (hy.uncons.1.own_inv).1
  have hob := S.objs d _ hl
  have hrow := (lst_ints (E := env w O s.heap loc) (id := d) (x := loc d) rfl).1 hob
  have hrow' : w.ownsRow 0 t 1 y zs.length (zs.map (Value.int .i64)) := by rw [hyx]; exact hrow
  refine (hs w y hrow').mono ?_
  rintro e w' ⟨rfl, h1, h2⟩
  by_cases hn : ∃ g, blk (loc d) = some g
  · obtain ⟨g, hg⟩ := hn
    have hext : Ext w (fun b => b = g) w' := ⟨h2.os, h2.tape, h2.output, h2.size, fun b hb hne => h2.block b hb (by rw [hyx, hg]; simpa using fun e => hne e.symm)⟩
    obtain ⟨k1, k2⟩ := S.write d (.lst t 1 (zs.map .i)) (.lst t 1 (zs'.map .i)) hl ⟨rfl, rfl⟩ hg hext (fun hrel => (lst_ints (E := env w' O (upd s.heap d (.lst t 1 (zs'.map .i))) loc) (id := d) (x := y) (by rw [hyx]; rfl)).2 h1)
    exact ⟨.tup [], _, _, loc, hK, rfl, k1, Rel.tup_iff.2 ⟨#[], rfl, .nil _⟩⟩
  · have hnb : ∀ b, ¬ blk (loc d) = some b := fun b hb => hn ⟨b, hb⟩
    have hg : Grows w w' := ⟨h2.os, h2.tape, h2.output, h2.size, fun b hb _ => h2.block b hb (by rw [hyx]; exact hnb b)⟩
    have ez : zs = [] ∧ zs' = [] := by
      constructor
      · rcases hrow.2 with ⟨_, h0⟩ | ⟨g, cap, cur, e, _⟩
        · exact List.eq_nil_of_length_eq_zero h0
        · exact absurd (by rw [e]; rfl) (hnb g)
      · rcases h1.2 with ⟨_, h0⟩ | ⟨g, cap, cur, e, _⟩
        · exact List.eq_nil_of_length_eq_zero h0
        · exact absurd (by rw [← hyx, e]; rfl) (hnb g)
    obtain ⟨rfl, rfl⟩ := ez
    have hsame : ∀ (H : Heap) (id : Nat), look (upd H d (.lst t 1 (([] : List Int).map .i))) id = if id = d then (look H id).map (fun _ => .lst t 1 (([] : List Int).map .i)) else look H id := fun H id => look_upd H d _ id
    have hs2 : ∀ id, look (upd s.heap d (.lst t 1 (([] : List Int).map .i))) id = look s.heap id := by
      intro id
      rw [hsame]
      by_cases e : id = d
      · subst e; rw [if_pos rfl, hl]; rfl
      · rw [if_neg e]
    have S' := S.grows hg
    refine ⟨.tup [], _, _, loc, hK, rfl, ?_, Rel.tup_iff.2 ⟨#[], rfl, .nil _⟩⟩
    have he : env w' O (upd s.heap d (.lst t 1 (([] : List Int).map .i))) loc = env w' O s.heap loc := by
      have h1 : look (upd s.heap d (.lst t 1 (([] : List Int).map .i))) = look s.heap := funext hs2
      unfold env
      rw [h1]
    refine ⟨by rw [he]; exact S'.vals, ?_, ?_, ?_, S'.ext, S'.O_lt⟩
    · intro id o ho
      rw [he]; rw [hs2] at ho; exact S'.objs id o ho
    · intro id id' b h1 h2; rw [hs2] at h1 h2; exact S'.dist id id' b h1 h2
    · intro id b h1; rw [hs2] at h1; exact S'.own id b h1
theorem r_turn {f : FuncId} {args : Array Operand} {ats : Array TypeId} {x : Operand} {d' : Nat} {te : TypeId} {zs zs' : List Int} (hx : ev slots x = .fn f []) (hs : Turns P f te zs zs') (hb : hasBody P f)
    (ha : args.toList.map (ev slots) = [.own d']) (hl : look H d' = some (.lst te 1 (zs.map .i)))
    (h : evalR P A rest ⟨(slots).set D (.tup []), upd H d' (.lst te 1 (zs'.map .i))⟩ K1) : evalR P A (⟨some D, .call { callee := .value x, args := args, argTypes := ats }, t, pos, af, none⟩ :: rest) ⟨slots, H⟩ K1 := by
  refine r_call ?_
  rw [hx, ha]
  exact CallS.turn (s := ⟨slots, H⟩) hs hb hl h
end
theorem SimAt.nil_obj {w0 : World} {O M : Nat → Prop} {H : Heap} {loc : Nat → Value} {vs : List V} {xs : List Value} {w : World} (S : SimAt w0 O M H loc vs xs w) (d : Nat) (t : TypeId) (sz : Nat) (hz : 0 < sz) (hd : look H d = none) :
    SimAt w0 O M ((d, .lst t sz []) :: H) (fun k => if k = d then .slice none 0 0 else loc k) vs xs w ∧ (∀ x v, Rel (env w O H loc) x v → Rel (env w O ((d, .lst t sz []) :: H) (fun k => if k = d then .slice none 0 0 else loc k)) x v) ∧
      Rel (env w O ((d, .lst t sz []) :: H) (fun k => if k = d then .slice none 0 0 else loc k)) (.slice none 0 0) (.own d) := by
  obtain ⟨k1, k2⟩ := S.new d hd (Ext.refl w _) (.slice none 0 0) (.lst t sz []) (by intro b hb; simp [blk] at hb) (fun _ => ⟨⟨hz, rfl⟩, [], by
    show World.ownsRow w 0 t sz (if d = d then _ else loc d) _ _
    rw [if_pos rfl]; exact World.ownsRow_nil w 0 t sz, by simp, by simp⟩)
  refine ⟨k1, k2, ?_⟩
  have := Rel.own (E := env w O ((d, .lst t sz []) :: H) (fun k => if k = d then .slice none 0 0 else loc k)) d _ (look_eq d _ _) rfl ⟨none, 0, 0, if_pos rfl⟩
  simpa [env] using this
theorem St.Le.nilVar {s : St} (d id j : Nat) (t : TypeId) (sz : Nat) (hz : 0 < sz) (hd : look s.heap d = none) {T : TypeId} {cs : List V} (hv : look s.heap id = some (.var T (.agg cs))) (hj : cs.getD j .any = .sc (.slice none 0 0)) :
    s.Le ⟨s.slots, (d, .lst t sz []) :: upd s.heap id (.var T (.agg (cs.set j (.own d))))⟩ := by
  intro w0 O M loc xs w S
  have hne : id ≠ d := by rintro rfl; rw [hd] at hv; cases hv
  have hlook : ∀ k, look ((d, Obj.lst t sz []) :: upd s.heap id (.var T (.agg (cs.set j (.own d))))) k = if k = d then some (.lst t sz []) else if k = id then some (.var T (.agg (cs.set j (.own d)))) else look s.heap k := by
    intro k
    by_cases h1 : k = d
    · subst h1; simp [look]
    · rw [look_ne h1, if_neg h1, look_upd]
      by_cases h2 : k = id
      · subst h2; rw [if_pos rfl, if_pos rfl, hv]; rfl
      · rw [if_neg h2, if_neg h2]
  obtain ⟨k1, k2, k3⟩ := S.nil_obj d t sz hz hd
  have hE : ∀ x v, Rel (env w O ((d, .lst t sz []) :: s.heap) (fun k => if k = d then .slice none 0 0 else loc k)) x v → Rel (env w O ((d, .lst t sz []) :: upd s.heap id (.var T (.agg (cs.set j (.own d))))) (fun k => if k = d then .slice none 0 0 else loc k)) x v := by
    intro x v hr
    refine hr.mono (E := env w O ((d, .lst t sz []) :: s.heap) _) (E' := env w O ((d, .lst t sz []) :: upd s.heap id (.var T (.agg (cs.set j (.own d))))) _) (fun b hb => ⟨⟨hb.1, hb.2.1, fun k hk => hb.2.2 k ?_⟩, rfl⟩) (fun k o ho => ?_)
    · rw [hlook] at hk
      by_cases h1 : k = d
      · subst h1; simp [look]
      · rw [look_ne h1]
        rw [if_neg h1] at hk
        by_cases h2 : k = id
        · subst h2; rw [hv]; rfl
        · rw [if_neg h2] at hk; exact hk
    · have ho' : look ((d, Obj.lst t sz []) :: s.heap) k = some o := ho
      show ∃ o', look _ k = some o' ∧ o'.alike o ∧ _ = _
      rw [hlook]
      by_cases h1 : k = d
      · subst h1; rw [look_eq] at ho'; cases ho'; rw [if_pos rfl]; exact ⟨_, rfl, Obj.alike_refl _, rfl⟩
      · rw [look_ne h1] at ho'
        rw [if_neg h1]
        by_cases h2 : k = id
        · subst h2; rw [hv] at ho'; cases ho'; rw [if_pos rfl]; exact ⟨_, rfl, rfl, rfl⟩
        · rw [if_neg h2]; exact ⟨_, ho', Obj.alike_refl _, rfl⟩
  refine ⟨_, k1.vals.imp hE, fun k o ho => ?_, fun k k' b h1 h2 => k1.dist k k' b ?_ ?_, fun k b h1 => k1.own k b ?_, k1.ext, k1.O_lt⟩
  · rw [hlook] at ho
    by_cases h1 : k = d
    · subst h1
      rw [if_pos rfl] at ho; cases ho
      exact (k1.objs k _ (look_eq k _ _)).imp rfl (fun b _ => rfl) hE
    · rw [if_neg h1] at ho
      by_cases h2 : k = id
      · subst h2
        rw [if_pos rfl] at ho; cases ho
        obtain ⟨g, arr, e, hg, hr⟩ := k1.objs k _ (by rw [look_ne h1]; exact hv)
        refine ⟨g, arr, e, hg, ?_⟩
        have hr' := hr.imp hE
        have : RelL (env w O ((d, .lst t sz []) :: upd s.heap k (.var T (.agg (cs.set j (.own d))))) (fun k => if k = d then .slice none 0 0 else loc k)) arr.toList cs := hr'
        have hx : arr.toList.getD j undef = .slice none 0 0 := by
          have := this.getD j
          rw [hj] at this; exact Rel.sc_iff.1 this
        have hlt : j < cs.length := by
          rcases Nat.lt_or_ge j cs.length with h | h
          · exact h
          · rw [List.getD_eq_getElem?_getD, List.getElem?_eq_none h] at hj; cases hj
        have hset : arr.toList.set j (.slice none 0 0) = arr.toList := by
          apply List.ext_getElem?
          intro i
          rw [List.getElem?_set]
          by_cases hi : j = i
          · subst hi
            have hi' : j < arr.toList.length := by rw [this.1]; exact hlt
            rw [if_pos rfl, if_pos hi', List.getElem?_eq_getElem hi']
            rw [List.getD_eq_getElem?_getD, List.getElem?_eq_getElem hi'] at hx
            rw [← hx]; rfl
          · rw [if_neg hi]
        have := this.set j (hE _ _ k3)
        rw [hset] at this
        exact this
      · rw [if_neg h2] at ho
        exact (k1.objs k o (by rw [look_ne h1]; exact ho)).imp rfl (fun b _ => rfl) hE
  all_goals
    first
      | (rw [hlook] at h1
         by_cases e1 : k = d
         · subst e1; simp [look]
         · rw [look_ne e1]
           rw [if_neg e1] at h1
           by_cases e2 : k = id
           · subst e2; rw [hv]; rfl
           · rw [if_neg e2] at h1; exact h1)
      | (rw [hlook] at h2
         by_cases e1 : k' = d
         · subst e1; simp [look]
         · rw [look_ne e1]
           rw [if_neg e1] at h2
           by_cases e2 : k' = id
           · subst e2; rw [hv]; rfl
           · rw [if_neg e2] at h2; exact h2)
end Go.AM
namespace Go.AM
def GivesI (P : Program) (f : FuncId) (t : TypeId) (zs zs' : List Int) : Prop :=
  ∀ (w : World) (x : Value), w.ownsRow 0 t 1 x zs.length (zs.map (Value.int .i64)) → Calls P f #[x] w fun e w' => ∃ x', e = .returned x' ∧ w'.ownsRow 0 t 1 x' zs'.length (zs'.map (Value.int .i64)) ∧ Ext w (fun b => blk x = some b) w' ∧
    ∀ b, blk x' = some b → w.heap.size ≤ b ∨ blk x = some b
theorem Gives.of_ints {P : Program} {f : FuncId} {t : TypeId} {zs zs' : List Int} (k : Nat) (h : GivesI P f t zs zs') : Gives P f k [] t 1 (zs.map .i) (fun l => l = zs'.map .i) := by
  intro w O xs loc S
  obtain ⟨x, rfl⟩ : ∃ x, xs = [x] := List.length_eq_one_iff.1 S.vals.1
  have hx : x = loc k := (S.vals.uncons.1.own_inv).1
  have hrow := (lst_ints (E := env w O [(k, .lst t 1 (zs.map .i))] loc) (id := k) (x := x) hx.symm).1 (S.objs k _ (look_eq k _ _))
  refine (h w x hrow).mono ?_
  rintro e w' ⟨x', rfl, h1, h2, h3⟩
  have hO : ∀ b, blk x = some b → Owned [(k, Obj.lst t 1 (zs.map .i))] loc b := fun b hb => ⟨k, by simp [look], by rw [← hx]; exact hb⟩
  refine ⟨.own k, [(k, .lst t 1 (zs'.map .i))], x', fun _ => x', ⟨_, rfl, rfl, rfl⟩, rfl, RelL.cons ?_ (.nil _), ?_, ?_, ?_, ?_, S.O_lt⟩
  · have hv : ∃ a n c, x' = .slice a n c := by rcases h1.2 with ⟨e, _⟩ | ⟨g, cap, cur, e, _⟩ <;> exact ⟨_, _, _, e⟩
    exact Rel.own (E := env w' O [(k, .lst t 1 (zs'.map .i))] (fun _ => x')) k (.lst t 1 (zs'.map .i)) (look_eq k (.lst t 1 (zs'.map .i)) []) rfl hv
  · intro id o ho
    obtain ⟨rfl, rfl⟩ := look_one ho
    exact (lst_ints (E := env w' O _ (fun _ => x')) (id := id) (x := x') rfl).2 h1
  · intro id id' b a1 a2 _ _
    rw [look_one' a1, look_one' a2]
  · intro id b a1 a2
    rcases h3 b a2 with h | h
    · exact ⟨fun hb => by have := S.O_lt b hb; omega, .inl h⟩
    · have hk : blk (loc k) = some b := by rw [← hx]; exact h
      exact ⟨(S.own k b (by simp [look]) hk).1, .inr (hO b h)⟩
  · exact ⟨h2.os, h2.tape, h2.output, h2.size, fun b hb hn => h2.block b hb fun e => hn (hO b e)⟩
end Go.AM
namespace Go.AM
def getI {β : Type} : List (Int × β) → Int → Option β
  | [], _ => none
  | (k, b) :: m, n => if k = n then some b else getI m n
def setI {β : Type} : List (Int × β) → Int → β → List (Int × β)
  | [], n, b => [(n, b)]
  | (k, c) :: m, n, b => if k = n then (n, b) :: m else (k, c) :: setI m n b
def delI {β : Type} : List (Int × β) → Int → List (Int × β)
  | [], _ => []
  | (k, c) :: m, n => if k = n then m else (k, c) :: delI m n
def keyI {β : Type} (m : List (Int × β)) : List Value := m.map fun p => Value.int .i64 p.1
def mapO {β : Type} (g : β → V) (m : List (Int × β)) : Obj := .map (keyI m) (m.map fun p => g p.2)
def dmpO {β : Type} (g : β → V) (m : List (Int × β)) : V := .dmp (keyI m) (m.map fun p => g p.2)
theorem dmpO_cells {β : Type} (g : β → V) (m : List (Int × β)) : (dmpO g m).cells = [dmpO g m] := rfl
theorem mapO_kill {β : Type} (g : β → V) (m : List (Int × β)) (d : Nat) : (mapO g m).kill d = mapO g m := rfl
theorem mfind_int {β : Type} (m : List (Int × β)) (n : Int) (i : Nat) : mfind (.int .i64) (.int .i64 n) (keyI m) i = some ((m.findIdx? fun p => p.1 = n).map (· + i)) := by
  induction m generalizing i with
  | nil => rfl
  | cons p m ih =>
    obtain ⟨k, b⟩ := p
    have hs : Instr.sameNow (.int .i64) (.int .i64 n) (.int .i64 k) = some (n == k) := rfl
    simp only [keyI, List.map_cons, mfind, hs, List.findIdx?_cons]
    by_cases e : k = n
    · subst e; simp
    · have e' : (n == k) = false := by simpa using fun h => e h.symm
      have := ih (i + 1)
      simp only [keyI] at this
      simp only [e', e, decide_false, Bool.false_eq_true, if_false, this, Option.map_map]
      congr 1
      cases List.findIdx? (fun p => decide (p.1 = n)) m <;> simp <;> omega
theorem findIdx_lt {β : Type} {m : List (Int × β)} {n : Int} {j : Nat} (h : (m.findIdx? fun p => p.1 = n) = some j) : ∃ b, m[j]? = some (n, b) ∧ getI m n = some b ∧ (∀ c, setI m n c = m.set j (n, c)) ∧ delI m n = m.eraseIdx j := by
  induction m generalizing j with
  | nil => simp at h
  | cons p m ih =>
    obtain ⟨k, b⟩ := p
    rw [List.findIdx?_cons] at h
    by_cases e : k = n
    · subst e
      simp at h
      subst h
      exact ⟨b, rfl, by simp [getI], fun c => by simp [setI], by simp [delI]⟩
    · simp only [e, decide_false, Bool.false_eq_true, if_false] at h
      cases hq : List.findIdx? (fun p => decide (p.1 = n)) m with
      | none => rw [hq] at h; cases h
      | some i =>
        rw [hq] at h
        simp at h
        subst h
        obtain ⟨b', h1, h2, h3, h4⟩ := ih hq
        exact ⟨b', by simpa using h1, by simp [getI, e, h2], fun c => by simp [setI, e, h3], by simp [delI, e, h4]⟩
theorem findIdx_none {β : Type} {m : List (Int × β)} {n : Int} (h : (m.findIdx? fun p => p.1 = n) = none) : getI m n = none ∧ (∀ c, setI m n c = m ++ [(n, c)]) ∧ delI m n = m := by
  induction m with
  | nil => simp [getI, setI, delI]
  | cons p m ih =>
    obtain ⟨k, b⟩ := p
    rw [List.findIdx?_cons] at h
    by_cases e : k = n
    · subst e; simp at h
    · simp only [e, decide_false, Bool.false_eq_true, if_false, Option.map_eq_none_iff] at h
      obtain ⟨h1, h2, h3⟩ := ih h
      exact ⟨by simp [getI, e, h1], fun c => by simp [setI, e, h2], by simp [delI, e, h3]⟩
theorem mgot_int {β : Type} (g : β → V) (z0 : β) (m : List (Int × β)) (n : Int) (ok : Bool) :
    mgot (g z0) (m.map fun p => g p.2) (m.findIdx? fun p => p.1 = n) ok = if ok then .tup [g ((getI m n).getD z0), .b (getI m n).isSome] else g ((getI m n).getD z0) := by
  cases h : m.findIdx? fun p => p.1 = n with
  | none =>
    obtain ⟨h1, _⟩ := findIdx_none h
    rw [h1]; rfl
  | some j =>
    obtain ⟨b, h1, h2, _⟩ := findIdx_lt h
    rw [h2]
    have : (m.map fun p => g p.2).getD j .any = g b := by rw [List.getD_eq_getElem?_getD, List.getElem?_map, h1]; rfl
    simp only [mgot, this]; rfl
section
variable {P : Program} {rest : List Oper} {A : Array Oper} {H : Heap} {slots : List V} {K1 : St → Prop} {K : V → Prop} {d : Option Tmp} {D : Tmp} {t te : TypeId} {pos : String} {af : Array Edge} {e : Operand → V} {x y : Operand} {β : Type} {g : β → V} {z0 : β} {m : List (Int × β)} {n : Int} {id : Nat} {T : TypeId}
theorem v_lookupV {ks : List Value} {vs : List V} (hm : mpv P t = some (.int .i64, te)) (hz : zv P te = some (g z0)) (hv : mview H (e x) = some (ks, vs)) (hks : ks = keyI m) (hvs : vs = m.map fun p => g p.2) (hk : e y = .i n) {ok : Bool}
    (h : K (if ok then .tup [g ((getI m n).getD z0), .b (getI m n).isSome] else g ((getI m n).getD z0))) : valK P (.lookup t x y ok) e H K := by
  subst hks; subst hvs
  simp only [valK, hm, hz, hv, hk]
  rw [show Value.int .i64 n = Value.int .i64 n from rfl, mfind_int m n 0]
  have : (Option.map (· + 0) (m.findIdx? fun p => decide (p.1 = n))) = m.findIdx? fun p => decide (p.1 = n) := by cases m.findIdx? fun p => decide (p.1 = n) <;> rfl
  simp only [this, mgot_int]
  exact h
theorem v_lookup_mp (hm : mpv P t = some (.int .i64, te)) (hx : e x = .mp id) (hl : look H id = some (mapO g m)) (hz : zv P te = some (g z0)) (hk : e y = .i n) (h : K (g ((getI m n).getD z0))) : valK P (.lookup t x y false) e H K :=
  v_lookupV (ks := keyI m) (vs := m.map fun p => g p.2) hm hz (by rw [hx]; simp only [mview, hl, mapO]) rfl rfl hk h
theorem v_lookup_mp_ok (hm : mpv P t = some (.int .i64, te)) (hx : e x = .mp id) (hl : look H id = some (mapO g m)) (hz : zv P te = some (g z0)) (hk : e y = .i n) (h : K (.tup [g ((getI m n).getD z0), .b (getI m n).isSome])) : valK P (.lookup t x y true) e H K :=
  v_lookupV (ks := keyI m) (vs := m.map fun p => g p.2) hm hz (by rw [hx]; simp only [mview, hl, mapO]) rfl rfl hk h
theorem v_lookup_dmp (hm : mpv P t = some (.int .i64, te)) (hx : e x = dmpO g m) (hz : zv P te = some (g z0)) (hk : e y = .i n) (h : K (g ((getI m n).getD z0))) : valK P (.lookup t x y false) e H K :=
  v_lookupV (ks := keyI m) (vs := m.map fun p => g p.2) hm hz (by rw [hx]; simp only [mview, dmpO]) rfl rfl hk h
theorem r_makeMap (g : β → V) (hm : mpv P T = some (.int .i64, te)) (hf : look H D = none) (h : evalR P A rest ⟨slots.set D (.mp D), (D, mapO g []) :: H⟩ K1) : evalR P A (⟨some D, .makeMap T none, t, pos, af, none⟩ :: rest) ⟨slots, H⟩ K1 :=
  ⟨by rw [hm]; rfl, hf, h⟩
theorem mapWr_int {S : St} {mv kv : V} {L : Nat → List Value → List V → Value → Option Nat → Prop} (hm : mpv P T = some (.int .i64, te)) (h1 : mv = .mp id) (hl : look S.heap id = some (mapO g m)) (h2 : kv = .i n) (h : L id (keyI m) (m.map fun p => g p.2) (.int .i64 n) (m.findIdx? fun p => p.1 = n)) : mapWr P S T mv kv L := by
  subst h1; subst h2
  unfold mapWr
  simp only [hm, hl, mapO]
  rw [mfind_int m n 0]
  have : (Option.map (· + 0) (m.findIdx? fun p => decide (p.1 = n))) = m.findIdx? fun p => decide (p.1 = n) := by cases m.findIdx? fun p => decide (p.1 = n) <;> rfl
  simp only [this]
  exact h
theorem mset_int (b : β) : mset (keyI m) (m.map fun p => g p.2) (.int .i64 n) (g b) (m.findIdx? fun p => p.1 = n) = mapO g (setI m n b) := by
  cases h : m.findIdx? fun p => p.1 = n with
  | none =>
    obtain ⟨_, h2, _⟩ := findIdx_none h
    simp only [mset, mapO, h2, keyI, List.map_append, List.map_cons, List.map_nil]
  | some j =>
    obtain ⟨c, h1, _, h3, _⟩ := findIdx_lt h
    simp only [mset, mapO, h3, keyI, List.map_set]
    congr 1
    apply List.ext_getElem?
    intro i
    rw [List.getElem?_set]
    by_cases hi : j = i
    · subst hi
      have hlt := (List.getElem?_eq_some_iff.1 h1).1
      rw [if_pos rfl, if_pos (by simpa using hlt), List.getElem?_map, h1]; rfl
    · rw [if_neg hi]
theorem map_erase {α γ : Type} (f : α → γ) : ∀ (l : List α) (j : Nat), (l.map f).eraseIdx j = (l.eraseIdx j).map f
  | [], j => by simp
  | a :: l, 0 => by simp
  | a :: l, j + 1 => by simp [map_erase f l j]
theorem mdel_int : mdel (keyI m) (m.map fun p => g p.2) (m.findIdx? fun p => p.1 = n) = mapO g (delI m n) := by
  cases h : m.findIdx? fun p => p.1 = n with
  | none =>
    obtain ⟨_, _, h3⟩ := findIdx_none h
    simp only [mdel, mapO, h3]
  | some j =>
    obtain ⟨c, h1, _, _, h4⟩ := findIdx_lt h
    simp only [mdel, mapO, h4, keyI, map_erase]
theorem r_mapUpd {mo ko xo : Operand} {b : β} (hm : mpv P T = some (.int .i64, te)) (h1 : ev slots mo = .mp id) (hl : look H id = some (mapO g m)) (h2 : ev slots ko = .i n) (h3 : ev slots xo = g b) (hd : (g b).data = true)
    (h : evalR P A rest ((⟨slots, upd H id (mapO g (setI m n b))⟩ : St).put d .any) K1) : evalR P A (⟨d, .mapUpdate T mo ko xo, t, pos, af, none⟩ :: rest) ⟨slots, H⟩ K1 := by
  show mapWr P _ T _ _ _
  refine mapWr_int (S := ⟨slots, H⟩) hm h1 hl h2 ?_
  rw [show ev (St.mk slots H).slots xo = g b from h3, mset_int]
  exact ⟨hd, h⟩
theorem r_insert {mo ko xo : Operand} {b : β} (hm : mpv P T = some (.int .i64, te)) (h1 : ev slots mo = .mp id) (hl : look H id = some (mapO g m)) (h2 : ev slots ko = .i n) (h3 : ev slots xo = g b) (hd : (g b).data = true)
    (h : evalR P A rest ((⟨slots, upd H id (mapO g (setI m n b))⟩ : St).put d .any) K1) : evalR P A (⟨d, .insert T mo ko xo, t, pos, af, none⟩ :: rest) ⟨slots, H⟩ K1 := by
  show mapWr P _ T _ _ _
  refine mapWr_int (S := ⟨slots, H⟩) hm h1 hl h2 ?_
  rw [show ev (St.mk slots H).slots xo = g b from h3, mset_int]
  exact ⟨hd, h⟩
theorem r_delete {mo ko : Operand} {T' : TypeId} (hm : mpv P T = some (.int .i64, te)) (h1 : ev slots mo = .mp id) (hl : look H id = some (mapO g m)) (h2 : ev slots ko = .i n)
    (h : evalR P A rest ((⟨slots, upd H id (mapO g (delI m n))⟩ : St).put d .any) K1) : evalR P A (⟨d, .call { callee := .builtin .delete, args := #[mo, ko], argTypes := #[T, T'] }, t, pos, af, none⟩ :: rest) ⟨slots, H⟩ K1 := by
  show mapWr P _ T _ _ _
  refine mapWr_int (S := ⟨slots, H⟩) hm h1 hl h2 ?_
  rw [mdel_int]
  exact h
end
theorem See.mpO {H : Heap} {β : Type} {id : Nat} {g : β → V} {m : List (Int × β)} (h : look H id = some (mapO g m)) : See H (.mp id) (dmpO g m) := See.mp h
theorem See.varMpO {H : Heap} {β : Type} {id k : Nat} {t : TypeId} {g : β → V} {m : List (Int × β)} (h : look H id = some (.var t (.mp k))) (h2 : look H k = some (mapO g m)) : See H (.ptr id 0 0) (.pt (dmpO g m)) := See.varMp h h2
attribute [go_sem] dmpO_cells mapO_kill
end Go.AM
namespace Go.AM
section
variable {P : Program} {f : FuncId} {k : List Item} {s : St}
theorem Runs.ret_give {fn : Func} (hf : P.funcs[f]? = some fn) {j : Tmp} (hr : fn.results = #[.tmp j]) {d : Nat} (hs : s.slots.getD j .any = .own d) {t : TypeId} {sz : Nat} {es : List V} (hl : look s.heap d = some (.lst t sz es)) {Q : List V → Prop} (hq : Q es) :
    Runs P f (fun r H' => ∃ es', Q es' ∧ r = .own d ∧ H' = [(d, .lst t sz es')]) (.code .ret :: k) s := by
  refine Runs.ret hf ?_
  rw [hr]
  refine ⟨.own d, [(d, .lst t sz es)], ⟨es, hq, rfl, rfl⟩, fun w0 O M loc x w S => ?_⟩
  have S' : SimAt w0 O M s.heap loc [.own d] [x] w := by
    have e : pack [s.slots.getD j .any] = .own d := hs
    rw [e] at S; exact S
  exact ⟨loc, S'.clean (.refl _) (by simp [V.usesL, V.uses, look]) ⟨⟨hl, trivial⟩, trivial⟩⟩
end
end Go.AM
namespace Go.AM
def leafB : TypeDesc → V → Bool
  | .int _, .sc (.int _ _) => true
  | .bool, .sc (.bool _) => true
  | .string, .sc (.string _) => true
  | _, _ => false
def fieldsB (P : Program) (eq : TypeId → List V → Bool) : List Field → Nat → List V → Bool
  | [], off, zs => zs.length == off
  | f :: fs, off, zs => (f.name != "_") && (f.offset == off) && match tyv P f.type with
    | some (_, n) => decide (0 < n) && decide (off + n ≤ zs.length) && eq f.type ((zs.drop off).take n) && fieldsB P eq fs (off + n) zs
    | none => false
def eqB (P : Program) : Nat → TypeId → List V → Bool
  | 0, _, _ => false
  | d + 1, t, zs => match P.underlying t with
    | some (.struct fs) => !P.stoodInHeld t && fieldsB P (eqB P d) fs.toList 0 zs
    | some (.array n e) => match tyv P e with
      | some (_, m) => decide (0 < m) && (zs.length == n * m) && (List.range n).all fun k => eqB P d e ((zs.drop (k * m)).take m)
      | none => false
    | some td => match zs with
      | [z] => leafB td z
      | _ => false
    | none => false
def valOf (ag : Bool) (cs : List V) : V := if ag then .agg cs else cs.getD 0 .any
theorem plain_cons {c d : V} {cs ds : List V} : plainCells (c :: cs) (d :: ds) = (plainCells [c] [d] && plainCells cs ds) := by
  cases c <;> cases d <;> first
    | (rename_i x y; cases x <;> cases y <;> first | (simp [plainCells]; done) | rfl)
    | (simp [plainCells]; done)
    | rfl
theorem plain_len : ∀ {cs ds : List V}, plainCells cs ds = true → cs.length = ds.length
  | [], [], _ => rfl
  | [], d :: ds, h => by simp [plainCells] at h
  | c :: cs, [], h => by simp [plainCells] at h
  | c :: cs, d :: ds, h => by
    rw [plain_cons] at h
    simp only [Bool.and_eq_true] at h
    rw [List.length_cons, List.length_cons, plain_len h.2]
theorem plain_append : ∀ {as cs bs ds : List V}, as.length = cs.length → plainCells (as ++ bs) (cs ++ ds) = (plainCells as cs && plainCells bs ds)
  | [], [], bs, ds, _ => by simp [plainCells]
  | a :: as, c :: cs, bs, ds, h => by
    rw [List.cons_append, List.cons_append, plain_cons, plain_append (by simpa using h), plain_cons (cs := as), Bool.and_assoc]
theorem eqCells_cons {c d : V} {cs ds : List V} : eqCells (c :: cs) (d :: ds) = (eqCells [c] [d] && eqCells cs ds) := by
  cases c <;> cases d <;> first
    | (rename_i x y; cases x <;> cases y <;> first | (simp [eqCells]; done) | rfl)
    | (simp [eqCells]; done)
    | rfl
theorem eqCells_append : ∀ {as cs bs ds : List V}, as.length = cs.length → eqCells (as ++ bs) (cs ++ ds) = (eqCells as cs && eqCells bs ds)
  | [], [], bs, ds, _ => by simp [eqCells]
  | a :: as, c :: cs, bs, ds, h => by
    rw [List.cons_append, List.cons_append, eqCells_cons, eqCells_append (by simpa using h), eqCells_cons (cs := as), Bool.and_assoc]
theorem split_mid (l : List V) (off n : Nat) (h : off + n ≤ l.length) : l.drop off = (l.drop off).take n ++ l.drop (off + n) := by
  conv => lhs; rw [← List.take_append_drop n (l.drop off)]
  rw [List.drop_drop]
theorem plain_drop {cs ds : List V} (h : plainCells cs ds = true) (k : Nat) : plainCells (cs.drop k) (ds.drop k) = true := by
  by_cases hk : k ≤ cs.length
  · have hl := plain_len h
    have e1 := List.take_append_drop k cs
    have e2 := List.take_append_drop k ds
    rw [← e1, ← e2, plain_append (by rw [List.length_take, List.length_take, hl])] at h
    simp only [Bool.and_eq_true] at h
    exact h.2
  · have hl := plain_len h
    rw [List.drop_eq_nil_of_le (by omega), List.drop_eq_nil_of_le (by omega)]; rfl
theorem plain_take {cs ds : List V} (h : plainCells cs ds = true) (k : Nat) : plainCells (cs.take k) (ds.take k) = true := by
  have hl := plain_len h
  have e1 := List.take_append_drop k cs
  have e2 := List.take_append_drop k ds
  rw [← e1, ← e2, plain_append (by rw [List.length_take, List.length_take, hl])] at h
  simp only [Bool.and_eq_true] at h
  exact h.1
section
variable {P : Program} {E : Env} {w : World}
theorem part_at {ty : TypeId} {ag : Bool} {n : Nat} (ht : tyv P ty = some (ag, n)) {arr : Array Value} {cs : List V} {off : Nat} (hr : RelL E arr.toList cs) (hn : off + n ≤ cs.length) (h0 : 0 < n) (w : World) :
    ∃ y, (part ty arr off).run P w = .ok y w ∧ Rel E y (valOf ag ((cs.drop off).take n)) := by
  obtain ⟨y, h1, h2⟩ := part_sound ht hr hn h0 w
  refine ⟨y, h1, ?_⟩
  unfold V.sub at h2
  unfold valOf
  cases ag with
  | true => exact h2
  | false =>
    simp only [Bool.false_eq_true, if_false, V.cells] at h2 ⊢
    have : ((cs.drop off).take n).getD 0 .any = cs.getD off .any := by
      rw [List.getD_eq_getElem?_getD, List.getD_eq_getElem?_getD, List.getElem?_take, if_pos h0, List.getElem?_drop, Nat.add_zero]
    rw [this]; exact h2
theorem eqB_sound : ∀ (d : Nat) (t : TypeId) (zs : List V), eqB P d t zs = true → ∀ (ag : Bool) (n : Nat), tyv P t = some (ag, n) → ∀ (cs ds : List V), plainCells zs cs = true → plainCells cs ds = true → ∀ (x y : Value) (w : World) (m : Nat), d ≤ m → Rel E x (valOf ag cs) → Rel E y (valOf ag ds) →
    (Op.equalIn m t x y).run P w = .ok (eqCells cs ds) w
  | 0, _, _, h => by simp [eqB] at h
  | d + 1, t, zs, h => by
    intro ag n ht cs ds hz hc x y w m hm hx hy
    have hlz := plain_len hz
    have hlc := plain_len hc
    obtain ⟨m, rfl⟩ : ∃ m', m = m' + 1 := ⟨m - 1, by omega⟩
    have hm' : d ≤ m := by omega
    unfold eqB at h
    have hag : ∀ td, P.underlying t = some td → ag = aggD td := by
      intro td hu
      unfold tyv at ht
      rw [hu] at ht
      cases hi : P.info? t with
      | none => simp [hi] at ht
      | some i => simp only [hi, Option.some.injEq, Prod.mk.injEq] at ht; exact ht.1.symm
    split at h
    · rename_i fs hu
      have ea := hag _ hu
      subst ea
      simp only [aggD, valOf, if_true] at hx hy
      obtain ⟨xs, rfl, hxr⟩ := Rel.agg_iff.1 hx
      obtain ⟨ys, rfl, hyr⟩ := Rel.agg_iff.1 hy
      simp only [Bool.and_eq_true, Bool.not_eq_true'] at h
      have hf : P.fieldsOf t = fs := by simp [Program.fieldsOf, hu]
      rw [run_equalIn_struct w m t xs ys (by rw [hf]; exact hu) h.1, hf]
      have key : ∀ (l : List Field) (off : Nat), off ≤ zs.length → fieldsB P (eqB P d) l off zs = true → (Op.eqFields m xs ys l).run P w = .ok (eqCells (cs.drop off) (ds.drop off)) w := by
        intro l
        induction l with
        | nil =>
          intro off ho h
          simp only [fieldsB, beq_iff_eq] at h
          rw [List.drop_eq_nil_of_le (by omega), List.drop_eq_nil_of_le (by omega)]
          simp [Op.eqFields, eqCells]
        | cons f l ih =>
          intro off ho h
          simp only [fieldsB, Bool.and_eq_true] at h
          obtain ⟨⟨hn, hoff⟩, h⟩ := h
          have hoff' : f.offset = off := by simpa using hoff
          have hn' : f.name ≠ "_" := by simpa using hn
          cases htf : tyv P f.type with
          | none => rw [htf] at h; cases h
          | some q =>
            obtain ⟨ag', k⟩ := q
            rw [htf] at h
            simp only [Bool.and_eq_true, decide_eq_true_eq] at h
            obtain ⟨⟨⟨h0, hl⟩, he⟩, hrest⟩ := h
            obtain ⟨a, pa, ra⟩ := part_at htf hxr (off := off) (by omega) h0 w
            obtain ⟨b, pb, rb⟩ := part_at htf hyr (off := off) (by omega) h0 w
            have hsub := eqB_sound d f.type _ he ag' k htf ((cs.drop off).take k) ((ds.drop off).take k) (plain_take (plain_drop hz off) k) (plain_take (plain_drop hc off) k) a b w m hm' ra rb
            simp only [Op.eqFields]
            rw [if_pos hn', hoff', Sem.run_bind, pa]
            simp only [Result.andThen_ok]
            rw [Sem.run_bind, pb]
            simp only [Result.andThen_ok]
            rw [Sem.run_bind, hsub]
            simp only [Result.andThen_ok]
            have e : eqCells (cs.drop off) (ds.drop off) = (eqCells ((cs.drop off).take k) ((ds.drop off).take k) && eqCells (cs.drop (off + k)) (ds.drop (off + k))) := by
              rw [← eqCells_append (by simp; omega), ← split_mid cs off k (by omega), ← split_mid ds off k (by omega)]
            have hih := ih (off + k) (by omega) hrest
            rw [e]
            generalize eqCells ((cs.drop off).take k) ((ds.drop off).take k) = q
            cases q
            · simp
            · simpa using hih
      have := key fs.toList 0 (by omega) h.2
      simpa using this
    · rename_i len e hu
      have ea := hag _ hu
      subst ea
      simp only [aggD, valOf, if_true] at hx hy
      obtain ⟨xs, rfl, hxr⟩ := Rel.agg_iff.1 hx
      obtain ⟨ys, rfl, hyr⟩ := Rel.agg_iff.1 hy
      cases hte : tyv P e with
      | none => rw [hte] at h; cases h
      | some q =>
        obtain ⟨ag', k⟩ := q
        rw [hte] at h
        simp only [Bool.and_eq_true, decide_eq_true_eq, beq_iff_eq] at h
        obtain ⟨⟨h0, hlen⟩, hall⟩ := h
        obtain ⟨i, hi, hik⟩ : ∃ i, P.info? e = some i ∧ i.size = k := by
          unfold tyv at hte
          split at hte
          · rename_i d' i h1 h2; simp only [Option.some.injEq, Prod.mk.injEq] at hte; exact ⟨i, h2, hte.2⟩
          · cases hte
        have hck : P.cellsOf e = k := by simp [Program.cellsOf, hi, hik]
        rw [run_equalIn_array w m xs ys hu hi, hck]
        have key : ∀ (r j : Nat), j + r = len → (Op.eqItems m e k xs ys (List.range' j r)).run P w = .ok (eqCells (cs.drop (j * k)) (ds.drop (j * k))) w := by
          intro r
          induction r with
          | zero =>
            intro j hj
            have : j = len := by omega
            subst this
            rw [List.drop_eq_nil_of_le (by omega), List.drop_eq_nil_of_le (by omega)]
            simp [Op.eqItems, eqCells]
          | succ r ih =>
            intro j hj
            have hb : j * k + k ≤ zs.length := by
              rw [hlen]
              have : (j + 1) * k ≤ len * k := Nat.mul_le_mul_right _ (by omega)
              rw [Nat.add_mul] at this; omega
            have he := List.all_eq_true.1 hall j (List.mem_range.2 (by omega))
            obtain ⟨a, pa, ra⟩ := part_at hte hxr (off := j * k) (by omega) h0 w
            obtain ⟨b, pb, rb⟩ := part_at hte hyr (off := j * k) (by omega) h0 w
            have hsub := eqB_sound d e _ he ag' k hte ((cs.drop (j * k)).take k) ((ds.drop (j * k)).take k) (plain_take (plain_drop hz _) k) (plain_take (plain_drop hc _) k) a b w m hm' ra rb
            rw [List.range'_succ]
            simp only [Op.eqItems]
            rw [Sem.run_bind, pa]
            simp only [Result.andThen_ok]
            rw [Sem.run_bind, pb]
            simp only [Result.andThen_ok]
            rw [Sem.run_bind, hsub]
            simp only [Result.andThen_ok]
            have e : eqCells (cs.drop (j * k)) (ds.drop (j * k)) = (eqCells ((cs.drop (j * k)).take k) ((ds.drop (j * k)).take k) && eqCells (cs.drop (j * k + k)) (ds.drop (j * k + k))) := by
              rw [← eqCells_append (by simp; omega), ← split_mid cs (j * k) k (by omega), ← split_mid ds (j * k) k (by omega)]
            have hih := ih (j + 1) (by omega)
            rw [Nat.add_mul, Nat.one_mul] at hih
            rw [e]
            generalize eqCells ((cs.drop (j * k)).take k) ((ds.drop (j * k)).take k) = q
            cases q
            · simp
            · simpa using hih
        have := key len 0 (by omega)
        rw [List.range_eq_range']
        simpa using this
    · rename_i td hns hna hu
      split at h
      · rename_i z
        have ea := hag _ hu
        obtain ⟨c, rfl⟩ : ∃ c, cs = [c] := List.length_eq_one_iff.1 (by simpa using hlz.symm)
        obtain ⟨d', rfl⟩ : ∃ d', ds = [d'] := List.length_eq_one_iff.1 (by simpa using hlc.symm)
        have eag : ag = false := by
          rw [ea]
          unfold leafB at h
          split at h <;> first | rfl | cases h
        subst eag
        simp only [valOf, Bool.false_eq_true, if_false, List.getD_cons_zero] at hx hy
        unfold leafB at h
        split at h
        · obtain ⟨a, b, k, rfl, rfl⟩ : ∃ a b k, c = .sc (.int k a) ∧ d' = .sc (.int k b) := by
            cases c <;> (try (simp [plainCells] at hz; done))
            rename_i xc
            cases xc <;> (try (simp [plainCells] at hz; done))
            cases d' <;> (try (simp [plainCells] at hc; done))
            rename_i xd
            cases xd <;> (try (simp [plainCells] at hc; done))
            rename_i k a k' b
            have : k = k' := by simpa [plainCells] using hc
            exact ⟨a, b, k, rfl, by rw [this]⟩
          rw [Rel.sc_iff.1 hx, Rel.sc_iff.1 hy, run_equalIn_int w m t _ _ _ _ hu]
          by_cases e : a = b <;> simp [eqCells, e]
        · obtain ⟨a, b, rfl, rfl⟩ : ∃ a b, c = .sc (.bool a) ∧ d' = .sc (.bool b) := by
            cases c <;> (try (simp [plainCells] at hz; done))
            rename_i xc
            cases xc <;> (try (simp [plainCells] at hz; done))
            cases d' <;> (try (simp [plainCells] at hc; done))
            rename_i xd
            cases xd <;> (try (simp [plainCells] at hc; done))
            exact ⟨_, _, rfl, rfl⟩
          rw [Rel.sc_iff.1 hx, Rel.sc_iff.1 hy, run_equalIn_bool' w m t _ _ hu]
          simp [eqCells]
        · obtain ⟨a, b, rfl, rfl⟩ : ∃ a b, c = .sc (.string a) ∧ d' = .sc (.string b) := by
            cases c <;> (try (simp [plainCells] at hz; done))
            rename_i xc
            cases xc <;> (try (simp [plainCells] at hz; done))
            cases d' <;> (try (simp [plainCells] at hc; done))
            rename_i xd
            cases xd <;> (try (simp [plainCells] at hc; done))
            exact ⟨_, _, rfl, rfl⟩
          rw [Rel.sc_iff.1 hx, Rel.sc_iff.1 hy, run_equalIn_string w m t _ _ hu]
          rw [← beq_toListBytes, beq_bytes]
          simp [eqCells]
        · cases h
      · cases h
    · cases h
end
theorem eqlT_of {P : Program} {t : TypeId} {zs : List V} {n : Nat} (h : eqB P 8 t zs = true) (ht : tyv P t = some (true, n)) (hg : P.eqGuardType P.depth t = false) : eqlT P t zs :=
  ⟨fun cs ds xs ys E w hz hc hx hy => eqB_sound 8 t zs h true n ht cs ds hz hc _ _ w 10000 (by decide) (Rel.agg_iff.2 ⟨xs, rfl, hx⟩) (Rel.agg_iff.2 ⟨ys, rfl, hy⟩), hg⟩
end Go.AM
namespace Go.AM
open V (Le LeL)
class TyF (P : Program) (t : TypeId) (a : outParam Bool) (n : outParam Nat) : Prop where h : tyv P t = some (a, n)
class UnF (P : Program) (t : TypeId) (u : outParam TypeDesc) : Prop where h : P.underlying t = some u
class SlF (P : Program) (t : TypeId) (e : outParam TypeId) (n b : outParam Nat) : Prop where h : slv P t = some (e, n, b)
class SlN (P : Program) (t : TypeId) : Prop where h : slv P t = none
class ArF (P : Program) (t : TypeId) (n : outParam Nat) (a : outParam Bool) (s : outParam Nat) : Prop where h : arv P t = some (n, a, s)
class FlF (P : Program) (t : TypeId) (j : Nat) (o : outParam Nat) (a : outParam Bool) (n : outParam Nat) : Prop where h : fldv P t j = some (o, a, n)
class PlF (P : Program) (t : TypeId) (l : outParam (List (Nat × Nat))) : Prop where h : places P t = some l
class ZvF (P : Program) (t : TypeId) (z : outParam V) : Prop where h : zv P t = some z
class ZoF (P : Program) (t : TypeId) (n : outParam Nat) : Prop where h : zok P t n
class MpF (P : Program) (t : TypeId) (k : outParam TypeDesc) (e : outParam TypeId) : Prop where h : mpv P t = some (k, e)
class EqF (P : Program) (t : TypeId) (z : outParam (List V)) : Prop where h : eqlT P t z
class HbF (P : Program) (f : FuncId) : Prop where h : hasBody P f
theorem SlF.s {P : Program} {t e : TypeId} {n b : Nat} [h : SlF P t e n b] : (slv P t).isSome = true := by rw [h.h]; rfl
structure Hold (q : Prop) : Prop where
  h : q
section
variable {P : Program} {rest : List Oper} {A : Array Oper} {s : St} {K1 : St → Prop} {d : Option Tmp} {t : TypeId} {pos : String} {af : Array Edge} {g : Nat × Bool}
theorem r_at (op : Op) (h : evalR P A (⟨d, op, t, pos, af, none⟩ :: rest) s K1) : evalR P A (⟨d, op, t, pos, af, none⟩ :: rest) s K1 := h
theorem d_at (op : Op) (h : evalD P A (⟨d, op, t, pos, af, none⟩ :: rest) s K1) : evalD P A (⟨d, op, t, pos, af, none⟩ :: rest) s K1 := h
theorem r_gd {op : Op} (h : evalR P A (⟨d, op, t, pos, af, some g⟩ :: rest) s K1) : evalR P A (⟨d, op, t, pos, af, some g⟩ :: rest) s K1 := h
theorem d_gd {op : Op} (h : evalD P A (⟨d, op, t, pos, af, some g⟩ :: rest) s K1) : evalD P A (⟨d, op, t, pos, af, some g⟩ :: rest) s K1 := h
theorem r_is {l : List Oper} (h : evalR P A l s K1) : evalR P A l s K1 := h
theorem d_is {l : List Oper} (h : evalD P A l s K1) : evalD P A l s K1 := h
end
section
variable {P : Program} {rest : List Oper} {A : Array Oper} {H : Heap} {slots : List V} {K1 : St → Prop} {D : Tmp} {t T te : TypeId} {pos : String} {af : Array Edge}
theorem r_makeMapZ {β : Type} (g : β → V) {z : V} (hm : mpv P T = some (.int .i64, te)) (hz : zv P te = some z) (hf : look H D = none) (h : evalR P A rest ⟨slots.set D (.mp D), (D, mapO g []) :: H⟩ K1) : evalR P A (⟨some D, .makeMap T none, t, pos, af, none⟩ :: rest) ⟨slots, H⟩ K1 := r_makeMap g hm hf h
theorem r_makeG {α : Type} (g : α → V) (z0 : α) {l c : Operand} {sz by_ m : Nat} {k k' : IntKind} (ht : slv P T = some (te, sz, by_)) (hl : ev slots l = .sc (.int k m)) (hc : ev slots c = .sc (.int k' m)) (hz : zv P te = some (g z0))
    (hn : m * by_ ≤ 140737488355328 ∧ m ≤ 140737488355328 ∧ 0 < sz) (hok : (g z0).cells.length = sz ∧ (g z0).okCells = true) (hf : look H D = none)
    (h : evalR P A rest ⟨slots.set D (.own D), (D, .lst te sz ((List.replicate m z0).map g)) :: H⟩ K1) : evalR P A (⟨some D, .makeSlice T l c, t, pos, af, none⟩ :: rest) ⟨slots, H⟩ K1 := by
  refine r_make ht hl hc hz ⟨by omega, ?_, by omega, hn.2.2⟩ hok hf ?_
  · rw [Int.toNat_natCast]; exact hn.1
  · rw [Int.toNat_natCast, ← List.map_replicate]; exact h
end
section
variable {P : Program} {f : FuncId} {k : List Item} {s : St} {fn : Func} {r : V}
theorem Runs.is {post : V → Heap → Prop} {l : List Item} (h : Runs P f post l s) : Runs P f post l s := h
theorem Runs.isC {post : V → Heap → Prop} {l : List Item} {c : Operand} {x y : Code} (h : Runs P f post (.code (.cond c x y) :: l) s) : Runs P f post (.code (.cond c x y) :: l) s := h
theorem Runs.ret1 {i : Tmp} {u : V} (hf : P.funcs[f]? = some fn) (hr : fn.results.toList = [.tmp i]) (hu : s.slots.getD i .any = u) (hd : r.data = true) (h : Le u r) : Runs P f (fun r' H' => r' = r ∧ H' = []) (.code .ret :: k) s :=
  Runs.ret_fn hf (by rw [hr]; exact ⟨hu ▸ h, hd⟩)
theorem Runs.ret2 {i j : Tmp} {u v : V} (hf : P.funcs[f]? = some fn) (hr : fn.results.toList = [.tmp i, .tmp j]) (hu : s.slots.getD i .any = u) (hv : s.slots.getD j .any = v) (hd : r.data = true) (h : Le (.tup [u, v]) r) : Runs P f (fun r' H' => r' = r ∧ H' = []) (.code .ret :: k) s :=
  Runs.ret_fn hf (by rw [hr]; exact ⟨hu ▸ hv ▸ h, hd⟩)
end
theorem pre_of {a b p : Prop} (e : a = b) (k : b → p) : a → p := fun h => k (e ▸ h)
end Go.AM
namespace Go.AM
open V (Le LeL)
section
variable {P : Program} {rest : List Oper} {A : Array Oper} {H : Heap} {slots : List V} {K1 : St → Prop} {D : Tmp} {t T T' te : TypeId} {pos : String} {af : Array Edge}
theorem r_copyA {a b : Operand} {sz by_ id : Nat} {es ns : List V} {f : Bool} (ht : slv P T = some (te, sz, by_)) (ht' : (slv P T').isSome = true) (ha : ev slots a = .own id) (hb : ev slots b = .sl f ns)
    (hl : look H id = some (.lst te sz es)) (hns : Storable ns ∧ Stride sz ns) (hlen : es.length = ns.length)
    (h : evalR P A rest ⟨slots.set D (.i (ns.length : Nat)), upd H id (.lst te sz ns)⟩ K1) : evalR P A (⟨some D, .call { callee := .builtin .copy, args := #[a, b], argTypes := #[T, T'] }, t, pos, af, none⟩ :: rest) ⟨slots, H⟩ K1 := by
  refine .inr ?_
  show match slv P T with | some (te, sz, by_) => _ | none => False
  rw [ht]
  show srcK P T' sz H (ev slots b) _
  rw [hb]
  refine ⟨ht', hns.2, hns.1, ?_⟩
  show match ev slots a with | .own id => _ | _ => False
  rw [ha]
  show match look H id with | some (.lst te' sz' es) => _ | _ => False
  rw [hl]
  refine ⟨rfl, rfl, ?_⟩
  rw [hlen, Nat.min_self, List.take_length, List.drop_of_length_le (by omega), List.append_nil]
  exact h
end
end Go.AM
namespace Go.AM
open V (Le LeL)
theorem Runs.retC {P : Program} {f : FuncId} {k : List Item} {s : St} {fn : Func} {r : V} {c : Tmp} {ty tt : TypeId} {ag : Bool} {n id : Nat} {v : V} (hf : P.funcs[f]? = some fn) (hr : fn.results.toList = [.cell c ty]) (hu : s.slots.getD c .any = .ptr id 0 0)
    (hl : look s.heap id = some (.var tt v)) (ht : tyv P ty = some (ag, n)) (hn : n ≤ v.cells.length ∧ 0 < n) (hd : r.data = true) (h : Le (v.sub ag 0 n) r) : Runs P f (fun r' H' => r' = r ∧ H' = []) (.code .ret :: k) s := by
  refine Runs.ret_fn hf ?_
  rw [hr]
  show valK P (.load ty (.tmp c)) (ev s.slots) s.heap _
  refine v_load_ptr ht hu hl ?_ ?_ (.inl hn.2) ?_
  · exact Nat.one_pos
  · rw [Nat.zero_add]; exact hn.1
  · exact ⟨h, hd⟩
end Go.AM
namespace Go.AM
open V (Le LeL)
theorem v_indexAddr_slE {P : Program} {t te : TypeId} {x y : Operand} {e : Operand → V} {H : Heap} {K : V → Prop} {sz by_ : Nat} {f : Bool} {es : List V} {k : IntKind} {j : Int} {v : V} (hs : slv P t = some (te, sz, by_)) (hx : e x = .sl f es) (hi : e y = .sc (.int k j)) (hj : 0 ≤ j ∧ j < es.length) (hv : es.getD j.toNat .any = v) (hc : v.cells.length = sz) (h : K (.pt v)) : valK P (.indexAddr t x y) e H K := by
  subst hv
  exact v_indexAddr_sl hs hx hi hj hc h
end Go.AM
namespace Go.AM
open V (Le LeL)
section
variable {P : Program} {rest : List Oper} {A : Array Oper} {H : Heap} {slots : List V} {K1 : St → Prop} {D : Tmp} {t T T' te te' : TypeId} {pos : String} {af : Array Edge} {id off len cap : Nat} {es : List V}
theorem r_copyVS {a b : Operand} {sz by_ n : Nat} {ns es' : List V} {f : Bool} (ht : slv P T = some (te, sz, by_)) (ht' : (slv P T').isSome = true) (ha : ev slots a = .vw id off len cap) (hb : ev slots b = .sl f ns) (hl : look H id = some (.row te' sz es))
    (hoff : off + len ≤ es.length) (hst : Stride sz ns) (hn : n = min ns.length len) (hsto : Storable (ns.take n)) (he : es.take off ++ (ns.take n ++ es.drop (off + n)) = es')
    (h : evalR P A rest ⟨slots.set D (.i (n : Nat)), upd H id (.row te' sz es')⟩ K1) : evalR P A (⟨some D, .call { callee := .builtin .copy, args := #[a, b], argTypes := #[T, T'] }, t, pos, af, none⟩ :: rest) ⟨slots, H⟩ K1 := by
  refine .inl ⟨te, te', sz, by_, id, off, len, cap, es, ns, n, ht, ha, hl, hoff, ⟨ht', .inl ⟨f, hb, hst⟩⟩, hn, hsto, ?_⟩
  rw [he]; exact h
theorem d_copyVV {d : Option Tmp} {a b : Operand} {sz by_ n : Nat} {es' es2 : List V} {id2 off2 len2 cap2 : Nat} {te2 : TypeId} (ht : slv P T = some (te, sz, by_)) (ht' : (slv P T').isSome = true) (ha : ev slots a = .vw id off len cap) (hb : ev slots b = .vw id2 off2 len2 cap2) (hl : look H id = some (.row te' sz es))
    (hl2 : look H id2 = some (.row te2 sz es2)) (hoff : off + len ≤ es.length) (hoff2 : off2 + len2 ≤ es2.length) (hn : n = min len2 len) (hsto : Storable (((es2.drop off2).take len2).take n)) (he : es.take off ++ (((es2.drop off2).take len2).take n ++ es.drop (off + n)) = es')
    (h : evalD P A rest ((⟨slots, upd H id (.row te' sz es')⟩ : St).put d (.i (n : Nat))) K1) : evalD P A (⟨d, .call { callee := .builtin .copy, args := #[a, b], argTypes := #[T, T'] }, t, pos, af, none⟩ :: rest) ⟨slots, H⟩ K1 := by
  refine ⟨te, te', sz, by_, id, off, len, cap, es, _, n, ht, ha, hl, hoff, ⟨ht', .inr ⟨id2, off2, len2, cap2, te2, es2, hb, hl2, hoff2, rfl⟩⟩, ?_, hsto, ?_⟩
  · rw [hn, List.length_take, List.length_drop]; omega
  · rw [he]; exact h
theorem r_zap {a b : Operand} {sz by_ m : Nat} {ik k : IntKind} {z : V} {olds : List V} (ht : slv P T = some (te, sz, by_)) (hu : P.underlying T' = some (.int ik)) (ha : ev slots a = .vw id off len cap) (hb : ev slots b = .sc (.int k (m : Nat))) (hl : look H id = some (.row te' sz es))
    (hoff : off + len ≤ es.length) (hm : 0 < m ∧ cap < len + m ∧ (len + m) * by_ ≤ 140737488355328 ∧ len + m ≤ 140737488355328) (hz : zv P te = some z) (hok : z.cells.length = sz ∧ z.okCells = true) (hf : look H D = none) (he : (es.drop off).take len = olds)
    (h : ∀ c, len + m ≤ c → evalR P A rest ⟨slots.set D (.vw D 0 (len + m) c), (D, .row te sz (olds ++ List.replicate (c - len) z)) :: H⟩ K1) : evalR P A (⟨some D, .call { callee := .builtin .append, args := #[a, b], argTypes := #[T, T'] }, t, pos, af, none⟩ :: rest) ⟨slots, H⟩ K1 := by
  show match slv P T with | some (te, sz, by_) => _ | none => False
  rw [ht]
  refine .inl (.inr ⟨ik, k, m, id, off, len, cap, te', es, z, hu, hb, ha, hl, hoff, hm, hz, hok, hf, fun c hc => ?_⟩)
  rw [he]; exact h c hc
end
theorem run_overlaps_own {P : Program} (w : World) (tS tR e : TypeId) (ht : P.underlying tS = some (.slice e)) (size : Nat) (hz : (Go.sizeOf e).run P w = .ok size w) (a b : Addr) (la ca lb cb : Nat)
    (h : la = 0 ∨ ∃ tA kA tB kB, a.block ≠ b.block ∧ w.shape? a.block = some (tA, kA) ∧ kA ≠ 0 ∧ w.shape? b.block = some (tB, kB) ∧ w.frozen? b = false ∧ w.frozen? { block := b.block, off := kB } = false) :
    (Extern.SlicesOverlaps.overlaps #[tS, tS] #[tR] #[.slice (some a) la ca, .slice (some b) lb cb]).run P w = .ok (.bool false) w := by
  change Sem.run P (α := Value) (do
    let some t := (#[tS, tS] : Array TypeId)[0]? | stuck "slices.overlaps: no parameter types"
    let .slice elem ← underlying t | stuck "slices.overlaps: slice type expected"
    let size ← sizeOf elem
    match (some a : Option Addr), (some b : Option Addr) with
    | some a, some b =>
      if la = 0 ∨ lb = 0 ∨ size = 0 then pure (Value.bool false)
      else if a.block != b.block && (← frozen a) && (← frozen b) then unsupported .addressObserved
      else do
        if a.block != b.block then do
          noView a; noView b
          if ← mayBeOne a b then return Value.bool ((← choose (.extern "sameAddr.stringBytes" 2)) == 1)
        pure (Value.bool (a.block == b.block && a.off < b.off + lb * size && b.off < a.off + la * size))
    | _, _ => pure (Value.bool false)) w = _
  by_cases h0 : la = 0 ∨ lb = 0 ∨ size = 0
  · simp [run_underlying ht, hz, h0]
  · obtain ⟨tA, kA, tB, kB, hne, hsa, hkA, hsb, hfb, hfe⟩ := h.resolve_left (fun e => h0 (.inl e))
    have hnb : (a.block != b.block) = true := by simpa using hne
    have hnb' : (a.block == b.block) = false := by simpa using hne
    cases kA with
    | zero => exact absurd rfl hkA
    | succ kA =>
      cases hfa : w.frozen? a <;> cases hfk : w.frozen? { block := a.block, off := kA + 1 } <;> simp [run_underlying ht, hz, h0, hnb, hnb', frozen, noView, viewAt, mayBeOne, stringish, shape, Sem.run, hsa, hsb, hfa, hfk, hfb, hfe]
section
variable {P : Program} {rest : List Oper} {A : Array Oper} {H : Heap} {slots : List V} {K1 : St → Prop} {D : Tmp} {t : TypeId} {pos : String} {af : Array Edge}
theorem r_overlaps {f : FuncId} {fn : Func} {tS tR te te' : TypeId} {sz by_ id off len cap : Nat} {es ns : List V} {fl : Bool} {args : Array Operand} {ats : Array TypeId} {x : Operand} (hf : P.funcs[f]? = some fn) (h1 : (fn.name == "runtime.NumGoroutine") = false) (hb : fn.body.isNone = true) (hn : Extern.findNext fn = none)
    (he : Extern.find fn = some (Extern.SlicesOverlaps.overlaps #[tS, tS] #[tR])) (ht : slv P tS = some (te, sz, by_)) (hx : ev slots x = .fn f []) (ha : args.toList.map (ev slots) = [.sl fl ns, .vw id off len cap]) (hl : look H id = some (.row te' sz es))
    (h : evalR P A rest ⟨slots.set D (.b false), H⟩ K1) : evalR P A (⟨some D, .call { callee := .value x, args := args, argTypes := ats }, t, pos, af, none⟩ :: rest) ⟨slots, H⟩ K1 := by
  refine r_call ?_
  rw [hx, ha]
  intro w0 O M loc xs w fx ys S hfx hy
  obtain ⟨arr, rfl, harr⟩ := Rel.fn_iff.1 hfx
  have harr0 : arr = #[] := by
    have := harr.1
    simpa using this
  subst harr0
  obtain ⟨y1, y2, rfl⟩ : ∃ y1 y2, ys = [y1, y2] := by
    match ys, hy.1 with
    | [y1, y2], _ => exact ⟨y1, y2, rfl⟩
  obtain ⟨hy1, hy2'⟩ := hy.uncons
  have hy2 := hy2'.uncons.1
  refine .inl ⟨f, #[], rfl, .inr ⟨.b false, .bool false, ?_, h, .sc _⟩⟩
  rw [run_callFunc_extern hf h1 hb hn he]
  obtain ⟨g, arr, ex, el, hg, hsz, hmx, hz, hlc, hfx⟩ := vw_at S hy2 hl
  obtain ⟨hu, ie, hie, his, hib⟩ := slv_run ht
  have hszr : (sizeOf te).run P w = .ok sz w := by simp [sizeOf, typeInfo, hie, his]
  have hfr : ∀ o, w.frozen? { block := g, off := o } = false := fun o => by simp [World.frozen?, hg]
  have key : (Extern.SlicesOverlaps.overlaps #[tS, tS] #[tR] #[y1, y2]).run P w = .ok (.bool false) w := by
    rw [ex]
    generalize hv : V.sl fl ns = v at hy1
    cases hy1 with
    | nil f a c e1 e2 =>
      cases hv
      cases a with
      | none =>
        change Sem.run P (α := Value) (do
          let some t := (#[tS, tS] : Array TypeId)[0]? | stuck "slices.overlaps: no parameter types"
          let .slice elem ← underlying t | stuck "slices.overlaps: slice type expected"
          let size ← sizeOf elem
          pure (Value.bool false)) w = _
        simp [run_underlying hu, hszr]
      | some ad => exact run_overlaps_own w tS tR te hu sz hszr ad ⟨g, off * sz, none⟩ 0 c len cap (.inl rfl)
    | sl f es0 g1 off1 c sz1 fv a1 a2 a3 a4 a5 a6 a7 a8 a9 =>
      cases hv
      have hne : g1 ≠ g := fun e => a5.2.2 id (by simp [hl]) (by show blk (loc id) = _; rw [el, e]; rfl)
      refine run_overlaps_own w tS tR te hu sz hszr ⟨g1, off1, none⟩ ⟨g, off * sz, none⟩ ns.length c len cap ?_
      rcases Nat.eq_zero_or_pos ns.length with h0 | h0
      · exact .inl h0
      · have hc := a8 0 (Nat.mul_pos h0 a6)
        have hc' : w.cell? ⟨g1, off1 + 0, none⟩ = some (fv 0) := hc
        unfold World.cell? at hc'
        dsimp only at hc'
        cases hh : w.heap[g1]? with
        | none => rw [hh] at hc'; cases hc'
        | some ob =>
          rw [hh] at hc'
          cases ob with
          | cells cs te1 fr =>
            refine .inr ⟨te1, cs.size, te', arr.size, hne, by simp [World.shape?, hh], ?_, by simp [World.shape?, hg], hfr _, hfr _⟩
            intro e0
            have : cs = #[] := Array.eq_empty_of_size_eq_zero e0
            subst this
            simp at hc'
          | _ => cases hc'
    | _ => cases hv
  have : (#[y1, y2] : Array Value) = [y1, y2].toArray ++ #[] := rfl
  rw [← this, key]
  rfl
end
section
variable {P : Program} {f : FuncId} {kk : List Item} {s : St}
theorem gives_open {fn : Func} {c0 : Code} {k : Nat} {us es : List V} {t : TypeId} {sz : Nat} {Q : List V → Prop} (hf : P.funcs[f]? = some fn) (hb : fn.body = some c0) (hne : es ≠ []) (hdu : V.dataL us = true)
    (h : ∀ c, es.length ≤ c → Runs P f (fun r H' => ∃ es', Q es' ∧ r = .own k ∧ H' = [(k, .lst t sz es')]) [.code c0] ⟨(.vw k 0 es.length c :: us) ++ List.replicate (fn.ntmps - (V.vw k 0 es.length c :: us).length) .any, [(k, .row t sz (es ++ List.replicate (c - es.length) (.agg (List.replicate sz .any))))]⟩) :
    Gives P f k us t sz es Q := by
  intro w O xs loc S
  obtain ⟨⟨hz, hdes⟩, ys, hown, hfx⟩ := S.objs k _ (look_eq k _ _)
  have hpos : 0 < es.length := List.length_pos_iff.2 hne
  rcases hown.2 with ⟨e, h0⟩ | ⟨g, cap, cur, e, q1, hg, q2, q3, q4, q5⟩
  · omega
  have e' : loc k = .slice (some ⟨g, 0, none⟩) es.length cap := e
  obtain ⟨y, ys', rfl⟩ : ∃ y ys', xs = y :: ys' := by
    cases xs with
    | nil => exact absurd S.vals.1 (by simp)
    | cons y ys => exact ⟨y, ys, rfl⟩
  have hy : y = loc k := (S.vals.uncons.1.own_inv).1
  have hlen : (es ++ List.replicate (cap - es.length) (V.agg (List.replicate sz V.any))).length = cap := by rw [List.length_append, List.length_replicate]; omega
  have hM : Owned [(k, .row t sz (es ++ List.replicate (cap - es.length) (.agg (List.replicate sz .any))))] (fun _ => .slice (some ⟨g, 0, none⟩) cap cap) = Owned [(k, .lst t sz es)] loc := by
    funext b
    apply propext
    constructor
    · rintro ⟨id, h1, h2⟩
      exact ⟨k, by simp [look], by rw [e']; exact h2⟩
    · rintro ⟨id, h1, h2⟩
      have : id = k := look_one' h1
      subst this
      exact ⟨id, by simp [look], by rw [e'] at h2; exact h2⟩
  have hF : ∀ b, (env w O [(k, .lst t sz es)] loc).F b → (env w O [(k, .row t sz (es ++ List.replicate (cap - es.length) (.agg (List.replicate sz .any))))] (fun _ => .slice (some ⟨g, 0, none⟩) cap cap)).F b ∧
      (env w O [(k, .row t sz (es ++ List.replicate (cap - es.length) (.agg (List.replicate sz .any))))] (fun _ => .slice (some ⟨g, 0, none⟩) cap cap)).w.heap[b]? = (env w O [(k, .lst t sz es)] loc).w.heap[b]? :=
    fun b hb => ⟨⟨hb.1, hb.2.1, fun id hid => by have := hb.2.2 k (by simp [look]); rw [e'] at this; exact this⟩, rfl⟩
  have hcl : cur.toList.length = cap * sz := by rw [Array.length_toList, q4]
  have hjd : V.dataL (List.replicate sz V.any) = true := dataL_rep rfl _
  have S' : SimAt w O (Owned [(k, .row t sz (es ++ List.replicate (cap - es.length) (.agg (List.replicate sz .any))))] (fun _ => .slice (some ⟨g, 0, none⟩) cap cap)) [(k, .row t sz (es ++ List.replicate (cap - es.length) (.agg (List.replicate sz .any))))] (fun _ => .slice (some ⟨g, 0, none⟩) cap cap) (.vw k 0 es.length cap :: us) (y :: ys') w := by
    refine ⟨RelL.cons ?_ ⟨S.vals.uncons.2.1, fun i hi => (S.vals.uncons.2.2 i hi).data_mono hF (V.dataL_getD hdu i)⟩, ?_, ?_, ?_, by rw [hM]; exact S.ext, S.O_lt⟩
    · have := Rel.vw (E := env w O [(k, .row t sz (es ++ List.replicate (cap - es.length) (.agg (List.replicate sz .any))))] (fun _ => .slice (some ⟨g, 0, none⟩) cap cap)) k 0 es.length cap _ g (look_eq k _ _) rfl rfl q2
      rw [hy, e']; simpa using this
    · intro id o ho
      obtain ⟨rfl, rfl⟩ := look_one ho
      have f1 : Flat (env w O [(id, .row t sz (es ++ List.replicate (cap - es.length) (.agg (List.replicate sz .any))))] (fun _ => .slice (some ⟨g, 0, none⟩) cap cap)) (fun k => ys.getD k undef) sz es :=
        ⟨hfx.1, fun i j hi hj => (hfx.2 i j hi hj).data_mono hF (V.data_getD_cells hdes i j)⟩
      have f2 : Flat (env w O [(id, .row t sz (es ++ List.replicate (cap - es.length) (.agg (List.replicate sz .any))))] (fun _ => .slice (some ⟨g, 0, none⟩) cap cap)) (fun k => (cur.toList.drop (es.length * sz)).getD k undef) sz (List.replicate (cap - es.length) (.agg (List.replicate sz .any))) := by
        have hget : ∀ i, i < cap - es.length → (List.replicate (cap - es.length) (V.agg (List.replicate sz V.any))).getD i .any = .agg (List.replicate sz .any) := fun i hi => by simp [List.getD_eq_getElem?_getD, hi]
        refine ⟨fun i hi => ?_, fun i j hi hj => ?_⟩
        · rw [List.length_replicate] at hi; rw [hget i hi]; simp [V.cells]
        · rw [List.length_replicate] at hi; rw [hget i hi]
          have : (V.agg (List.replicate sz V.any)).cells.getD j .any = .any := by simp [V.cells, List.getD_eq_getElem?_getD, hj]
          rw [this]; exact .any _
      have f3 := f1.app hown.1 f2
      rw [← q5, List.take_append_drop] at f3
      refine ⟨⟨hz, ?_⟩, g, cur, by rw [hlen]; rfl, hg, by rw [hlen]; exact q4, by rw [hlen]; exact q3, f3.1, fun i j hi hj => ?_⟩
      · rw [V.dataL_append, Bool.and_eq_true]; exact ⟨hdes, dataL_rep (z := .agg (List.replicate sz .any)) hjd _⟩
      · have := f3.2 i j hi hj
        simpa [Array.getD_eq_getD_getElem?, List.getD_eq_getElem?_getD] using this
    · intro id id' b h1 h2 _ _
      rw [look_one' h1, look_one' h2]
    · intro id b _ h2
      have := S.own k b (by simp [look]) (by rw [e']; exact h2)
      exact ⟨this.1, by rw [hM]; exact this.2⟩
  have := spec_of_runs hf hb (h cap q2) w O (y :: ys') _ S'
  rw [hM] at this
  exact this
theorem Runs.ret_giveV {fn : Func} (hf : P.funcs[f]? = some fn) {j : Tmp} (hr : fn.results = #[.tmp j]) {d k n c : Nat} (hs : s.slots.getD j .any = .vw d 0 n c) {t : TypeId} {sz : Nat} {es es' : List V} (hl : look s.heap d = some (.row t sz es)) (hc : es.length = c) (he : es.take n = es') {Q : List V → Prop} (hq : Q es') :
    Runs P f (fun r H' => ∃ es', Q es' ∧ r = .own k ∧ H' = [(k, .lst t sz es')]) (.code .ret :: kk) s := by
  subst he
  refine Runs.ret hf ?_
  rw [hr]
  refine ⟨.own k, [(k, .lst t sz (es.take n))], ⟨_, hq, rfl, rfl⟩, fun w0 O M loc x w S => ?_⟩
  have S1 : SimAt w0 O M s.heap loc [.vw d 0 n c] [x] w := by
    have e : pack [s.slots.getD j .any] = .vw d 0 n c := hs
    rw [e] at S; exact S
  obtain ⟨g, arr, ex, el, hg, hsz, hmx, ⟨hz, hdes⟩, hlc, hfx⟩ := vw_at S1 S1.vals.uncons.1 hl
  subst hc
  have hlen : (es.take n).length = n := by rw [List.length_take]; omega
  have hal : arr.toList.length = es.length * sz := by rw [Array.length_toList, hsz]
  have hnm : n * sz ≤ es.length * sz := Nat.mul_le_mul_right _ hlc
  rw [Nat.zero_mul] at ex
  have hF : ∀ b, (env w O s.heap loc).F b → (env w O [(k, .lst t sz (es.take n))] (fun _ => x)).F b ∧ (env w O [(k, .lst t sz (es.take n))] (fun _ => x)).w.heap[b]? = (env w O s.heap loc).w.heap[b]? :=
    fun b hb => ⟨⟨hb.1, hb.2.1, fun id hid => by have := hb.2.2 d (by simp [hl]); rw [el] at this; show blk x ≠ _; rw [ex]; exact this⟩, rfl⟩
  refine ⟨fun _ => x, RelL.cons ?_ (.nil _), ?_, ?_, ?_, S1.ext, S1.O_lt⟩
  · exact Rel.own (E := env w O [(k, .lst t sz (es.take n))] (fun _ => x)) k _ (look_eq k _ _) rfl ⟨_, _, _, ex⟩
  · intro id o ho
    obtain ⟨rfl, rfl⟩ := look_one ho
    refine ⟨⟨hz, dataL_take hdes _⟩, arr.toList.take (n * sz), ?_, ?_⟩
    · rw [hlen]
      refine ⟨by rw [List.length_take, hal]; omega, .inr ⟨g, es.length, arr, ex, Nat.zero_le _, hg, hlc, hmx, hsz, rfl⟩⟩
    · have := hfx.take n
      exact ⟨this.1, fun i j hi hj => (this.2 i j hi hj).data_mono hF (V.data_getD_cells (dataL_take hdes n) i j)⟩
  · intro id id' b h1 h2 _ _
    rw [look_one' h1, look_one' h2]
  · intro id b _ h2
    refine S1.own d b (by simp [hl]) ?_
    rw [el]
    have h2' : blk x = some b := h2
    rw [ex] at h2'; exact h2'
end
section
variable {P : Program} {e : Operand → V} {H : Heap} {K : V → Prop} {t te te' : TypeId} {x : Operand} {sz by_ id off len cap : Nat} {es : List V} {k k' : IntKind}
theorem v_slice_vlo {lo : Operand} {l : Int} (hs : slv P t = some (te, sz, by_)) (hx : e x = .vw id off len cap) (ho : look H id = some (.row te' sz es)) (hl : e lo = .sc (.int k l)) (hb : 0 ≤ l ∧ l ≤ len) (h : K (.vw id (if cap = l.toNat then off else off + l.toNat) (len - l.toNat) (cap - l.toNat))) : valK P (.slice t x (some lo) none none) e H K := by
  simp only [valK, hs, hx, ho, Option.map_none, Option.map_some, hl]; exact ⟨trivial, hb, h⟩
theorem v_slice_vhi {hi : Operand} {l : Int} (hs : slv P t = some (te, sz, by_)) (hx : e x = .vw id off len cap) (ho : look H id = some (.row te' sz es)) (hl : e hi = .sc (.int k l)) (hb : 0 ≤ l ∧ l ≤ cap) (h : K (.vw id off l.toNat cap)) : valK P (.slice t x none (some hi) none) e H K := by
  simp only [valK, hs, hx, ho, Option.map_none, Option.map_some, hl]; exact ⟨trivial, hb, h⟩
end
end Go.AM
namespace Go.AM
open V (Le LeL)
def catV : List (List V) → List V
  | [] => []
  | l :: ls => l ++ catV ls
theorem catV_eq (L : List (List V)) : L.flatten = catV L := by
  induction L with
  | nil => rfl
  | cons l L ih => rw [List.flatten_cons, catV, ih]
def seqB : List (Nat × Nat) → Nat → Bool
  | [], _ => true
  | (o, s) :: ps, off => o == off && seqB ps (off + s)
theorem fillV_seq {place : Nat → Option (Nat × Nat)} : ∀ (ps : List (Nat × Nat)) (vs : List V) (j off : Nat) (pre z : List V), (∀ k, place (j + k) = ps[k]?) → seqB ps off = true → vs.map (fun v => v.cells.length) = ps.map (·.2) → pre.length = off → z.length = off + (ps.map (·.2)).sum → z.take off = pre →
    fillV place z ((vs.zipIdx j).map fun p => (p.2, p.1)) = some (pre ++ (vs.map V.cells).flatten)
  | [], vs, j, off, pre, z, hp, hq, hv, hl, hz, ht => by
    have : vs = [] := by simpa using hv
    subst this
    have e : z = pre := by rw [← ht, List.take_of_length_le (by simp at hz; omega)]
    simp [fillV, e]
  | (o, s) :: ps, [], j, off, pre, z, hp, hq, hv, hl, hz, ht => by simp at hv
  | (o, s) :: ps, v :: vs, j, off, pre, z, hp, hq, hv, hl, hz, ht => by
    have h0 := hp 0
    simp only [Nat.add_zero, List.getElem?_cons_zero] at h0
    simp only [seqB, Bool.and_eq_true, beq_iff_eq] at hq
    simp only [List.map_cons, List.cons.injEq] at hv
    obtain ⟨rfl, hq⟩ := hq
    obtain ⟨hv0, hv⟩ := hv
    simp only [List.map_cons, List.sum_cons] at hz
    have ih := fillV_seq (place := place) ps vs (j + 1) (o + s) (pre ++ v.cells) (z.take o ++ v.cells ++ z.drop (o + s)) (fun k => by rw [Nat.add_assoc, Nat.add_comm 1 k, hp (k + 1)]; simp) hq hv (by rw [List.length_append]; omega) (by simp; omega) (by
      rw [ht]
      rw [List.take_left' (by rw [List.length_append]; omega)])
    simp only [List.zipIdx_cons, List.map_cons, fillV, h0]
    rw [if_neg (by simp; omega), ih]
    simp
theorem zip_parts {α : Type} (e : α → V) : ∀ (l : List (Nat × α)) (j : Nat), l.map (·.1) = (List.range' j l.length) → l.map (fun p => (p.1, e p.2)) = ((l.map fun p => e p.2).zipIdx j).map fun p => (p.2, p.1)
  | [], _, _ => rfl
  | (i, x) :: l, j, h => by
    simp only [List.map_cons, List.length_cons, List.range'_succ, List.cons.injEq] at h
    simp only [List.map_cons, List.zipIdx_cons]
    rw [zip_parts e l (j + 1) h.2, h.1]
theorem v_buildS {P : Program} {t : TypeId} {e : Operand → V} {H : Heap} {K : V → Prop} {parts : Array (Nat × Operand)} {ps : List (Nat × Nat)} {z : List V} (hp : places P t = some ps) (hz : zv P t = some (.agg z)) (hi : parts.toList.map (·.1) = List.range' 0 parts.toList.length) (hq : seqB ps 0 = true)
    (hl : (parts.toList.map fun p => (e p.2).cells.length) = ps.map (·.2)) (hzl : z.length = (ps.map (·.2)).sum) (hok : (parts.toList.all fun p => (e p.2).okCells) = true) (h : K (.agg (catV (parts.toList.map fun p => (e p.2).cells)))) : valK P (.build t parts) e H K := by
  rw [← catV_eq] at h
  refine v_build hp hz ?_ hok h
  rw [zip_parts e _ 0 hi, fillV_seq (place := fun i => ps[i]?) ps _ 0 0 [] z (fun k => by rw [Nat.zero_add]) hq (by rw [List.map_map]; exact hl) rfl (by rw [hzl, Nat.zero_add]) (by simp), List.map_map]
  rfl
end Go.AM
namespace Go.AM
open V (Le LeL)
def addrT (o : Oper) : Option Tmp := match o.op with
  | .load _ (.tmp a) => some a
  | .store _ (.tmp a) _ => some a
  | _ => none
def idT (ids : List (Tmp × Nat)) (a : Tmp) : Option Nat := (ids.find? fun p => p.1 == a).map (·.2)
def isLoadB : Op → Bool | .load .. => true | _ => false
def isStoreB : Op → Bool | .store .. => true | _ => false
def farB (ids : List (Tmp × Nat)) (x y : Oper) : Bool := x.guard.isNone && y.guard.isNone && ((isLoadB x.op && isStoreB y.op) || (isStoreB x.op && isLoadB y.op)) && match addrT x, addrT y with
  | some a, some b => match idT ids a, idT ids b with
    | some i, some j => i != j
    | _, _ => false
  | _, _ => false
def commF (ids : List (Tmp × Nat)) (x y : Oper) : Bool := commB x.op y.op || farB ids x y
def Shows (ids : List (Tmp × Nat)) (slots : List V) : Prop := ∀ a i, idT ids a = some i → ∃ j fo, slots.getD a .any = .ptr i j fo
def drawF (ids : List (Tmp × Nat)) (ops : Array Oper) : Bool :=
  (List.range ops.size).all fun j => match ops[j]? with
    | some oj => (oj.after.all (fun e => !Region.binds .any e || decide (e.on < j)) && (List.range j).all fun i => match ops[i]? with
        | some oi => oj.after.any (fun e => Region.binds .any e && e.on == i) || (oi.apart ops oj && commF ids oi oj)
        | none => true) && (List.range ops.size).all fun k => match ops[k]? with
          | some ok => match addrT oj with
            | some a => !(ok.dst == some a) || (decide (k < j) && oj.after.any (fun e => Region.binds .any e && e.on == k))
            | none => true
          | none => true
    | none => true
theorem drawF_lt {ids : List (Tmp × Nat)} {ops : Array Oper} (h : drawF ids ops = true) {j : Nat} {oj : Oper} (hj : ops[j]? = some oj) : ∀ e ∈ oj.after, Region.binds .any e = true → e.on < j := by
  have h1 := List.all_eq_true.1 h j (List.mem_range.2 (Array.getElem?_eq_some_iff.1 hj).1)
  simp only [hj, Bool.and_eq_true] at h1
  intro e he hb
  have := (Array.all_eq_true'.1 h1.1.1) e he
  simpa [hb] using this
theorem drawF_comm {ids : List (Tmp × Nat)} {ops : Array Oper} (h : drawF ids ops = true) {i j : Nat} {oi oj : Oper} (hi : ops[i]? = some oi) (hj : ops[j]? = some oj) (hij : i < j) (hno : ∀ e ∈ oj.after, Region.binds .any e = true → e.on ≠ i) :
    oi.apart ops oj = true ∧ commF ids oi oj = true := by
  have h1 := List.all_eq_true.1 h j (List.mem_range.2 (Array.getElem?_eq_some_iff.1 hj).1)
  simp only [hj, Bool.and_eq_true] at h1
  have h2 := List.all_eq_true.1 h1.1.2 i (List.mem_range.2 hij)
  simp only [hi, Bool.or_eq_true, Bool.and_eq_true] at h2
  rcases h2 with h2 | h2
  · obtain ⟨e, he, h3⟩ := (Array.any_eq_true').1 h2
    simp only [Bool.and_eq_true, beq_iff_eq] at h3
    exact absurd h3.2 (hno e he h3.1)
  · exact h2
def Apt (x z : Oper) : Prop := ∀ a, addrT x = some a → z.dst ≠ some a
theorem drawF_dst {ids : List (Tmp × Nat)} {ops : Array Oper} (h : drawF ids ops = true) {j k : Nat} {oj ok : Oper} (hj : ops[j]? = some oj) (hk : ops[k]? = some ok) (hno : ¬ (k < j ∧ ∃ e, e ∈ oj.after ∧ Region.binds .any e = true ∧ e.on = k)) : Apt oj ok := by
  intro a ha e
  have h1 := List.all_eq_true.1 h j (List.mem_range.2 (Array.getElem?_eq_some_iff.1 hj).1)
  simp only [hj, Bool.and_eq_true] at h1
  have h2 := List.all_eq_true.1 h1.2 k (List.mem_range.2 (Array.getElem?_eq_some_iff.1 hk).1)
  simp only [hk, ha, e, beq_self_eq_true, Bool.not_true, Bool.false_or, Bool.and_eq_true, decide_eq_true_eq] at h2
  obtain ⟨e', he, h3⟩ := (Array.any_eq_true').1 h2.2
  simp only [Bool.and_eq_true, beq_iff_eq] at h3
  exact hno ⟨h2.1, e', he, h3.1, h3.2⟩
theorem chain_slot {P : Program} {ops : Array Oper} {Q : V → Prop} {a : Tmp} : ∀ {l : List Oper} {s : St} {K : St → Prop}, chain P ops l s K → (∀ z ∈ l, z.dst ≠ some a) → (∀ s', K s' → Q (s'.slots.getD a .any)) → Q (s.slots.getD a .any)
  | [], s, K, h, _, hK => hK s h
  | o :: l, s, K, h, hd, hK => by
    obtain ⟨v, H', _, h2⟩ := h
    have := chain_slot h2 (fun z hz => hd z (by simp [hz])) hK
    have hne := hd o (by simp)
    unfold after St.put at this
    cases ho : o.dst with
    | none => rw [ho] at this; exact this
    | some d =>
      rw [ho] at this hne
      have e : (s.slots.set d v).getD a .any = s.slots.getD a .any := getD_set_ne' (fun e => hne (by rw [e])) _ _
      dsimp only at this
      rw [e] at this; exact this
theorem load_look {P : Program} {t : TypeId} {a : Operand} {e : Operand → V} {H G : Heap} {K : V → Prop} {i j fo : Nat} (he : e a = .ptr i j fo) (hl : look G i = look H i) (h : valK P (.load t a) e H K) : valK P (.load t a) e G K := by
  unfold valK at h ⊢
  simp only [he] at h ⊢
  rw [hl]; exact h
theorem store_keep {P : Program} {o : Oper} {t : TypeId} {p x : Operand} {e : Operand → V} {H H' : Heap} {v : V} {b j fo : Nat} (ho : o.op = .store t p x) (he : e p = .ptr b j fo) (h : dK P o e H fun u G => u = v ∧ G = H') : ∀ k, k ≠ b → look H' k = look H k := by
  intro k hk
  unfold dK at h
  simp only [ho, he] at h
  split at h
  · split at h
    · obtain ⟨_, _, _, _, _, _, _, rfl⟩ := h
      rw [look_upd, if_neg hk]
    · exact h.elim
  · exact h.elim
theorem chain_swapF {P : Program} {ops : Array Oper} {ids : List (Tmp × Nat)} {x y : Oper} {rest : List Oper} {s : St} {K : St → Prop} (hKS : ∀ s', K s' → Shows ids s'.slots) (hap : x.apart ops y = true) (hc : commF ids x y = true)
    (hX : ∀ z ∈ x :: y :: rest, Apt x z) (hY : ∀ z ∈ x :: y :: rest, Apt y z) (h : chain P ops (x :: y :: rest) s K) : chain P ops (y :: x :: rest) s K := by
  simp only [commF, Bool.or_eq_true] at hc
  rcases hc with hc | hc
  · exact chain_swap hap hc h
  have hslot : ∀ a, (∀ z ∈ x :: y :: rest, z.dst ≠ some a) → ∀ i, idT ids a = some i → ∃ j fo, s.slots.getD a .any = .ptr i j fo := fun a hd i hi =>
    chain_slot (Q := fun v => ∃ j fo, v = .ptr i j fo) h hd (fun s' hs' => hKS s' hs' a i hi)
  obtain ⟨v, H1, h1, u, H2, h2, h3⟩ := h
  obtain ⟨slots, H⟩ := s
  obtain ⟨a1, a2, a3⟩ := Oper.apart_spec hap
  have fin : ∀ G, Yv P ops y ⟨slots, H⟩ u G → Yv P ops x (after y ⟨slots, H⟩ u G) v H2 → chain P ops (y :: x :: rest) ⟨slots, H⟩ K := by
    intro G k1 k2
    refine ⟨u, G, k1, v, H2, k2, ?_⟩
    have e : after x (after y ⟨slots, H⟩ u G) v H2 = after y (after x ⟨slots, H⟩ v H1) u H2 := by
      simp only [after, st_eta]
      exact (put_put a2).symm
    rw [e]; exact h3
  have hy : Yv P ops y ⟨slots, H1⟩ u H2 := (Yv_slots (slots := slots) (H := H1) (u := v) a1 _ rfl).2 (by
    have : (⟨((⟨slots, H1⟩ : St).put x.dst v).slots, H1⟩ : St) = after x ⟨slots, H⟩ v H1 := by simp only [after]; cases x.dst <;> rfl
    rw [this]; exact h2)
  have seen : ∀ (G F : Heap), Yv P ops x ⟨slots, G⟩ v F → Yv P ops x (after y ⟨slots, H⟩ u G) v F := fun G F hx => by
    have := (Yv_slots (slots := slots) (H := G) (u := u) (d := y.dst) a3 _ rfl).1 hx
    have e : (⟨((⟨slots, G⟩ : St).put y.dst u).slots, G⟩ : St) = after y ⟨slots, H⟩ u G := by simp only [after]; cases y.dst <;> rfl
    rwa [e] at this
  unfold farB at hc
  simp only [Bool.and_eq_true, Option.isNone_iff_eq_none] at hc
  obtain ⟨⟨⟨gx, gy⟩, hk⟩, hids⟩ := hc
  split at hids
  · rename_i a b ha hb
    split at hids
    · rename_i i j hi hj
      have hne : i ≠ j := by simpa using hids
      obtain ⟨xj, xf, hxa⟩ := hslot a (fun z hz => hX z hz a ha) i hi
      obtain ⟨yj, yf, hyb⟩ := hslot b (fun z hz => hY z hz b hb) j hj
      dsimp only at hxa hyb
      have hxa' : ev slots (.tmp a) = .ptr i xj xf := hxa
      have hyb' : ev slots (.tmp b) = .ptr j yj yf := hyb
      simp only [Bool.or_eq_true, Bool.and_eq_true] at hk
      unfold Yv at h1 hy
      rw [gx] at h1
      rw [gy] at hy
      dsimp only at h1 hy
      rcases hk with ⟨k1, k2⟩ | ⟨k1, k2⟩
      · -- a load, then a store
        cases hox : x.op with
        | load t p =>
          cases hoy : y.op with
          | store t' q z =>
            have ep : p = .tmp a := by unfold addrT at ha; rw [hox] at ha; cases p <;> simp_all
            have eq' : q = .tmp b := by unfold addrT at hb; rw [hoy] at hb; cases q <;> simp_all
            subst ep; subst eq'
            have e1 : H1 = H := dK_keeps (by rw [hox]; rfl) h1
            subst e1
            have hkeep := store_keep hoy hyb' hy i hne
            refine fin H2 (by unfold Yv; rw [gy]; exact hy) (seen H2 H2 ?_)
            unfold Yv
            rw [gx]
            dsimp only
            unfold dK at h1 ⊢
            simp only [hox] at h1 ⊢
            have h1' : valK P (.load t (.tmp a)) (ev slots) H1 fun w => w = v ∧ True := h1
            have := load_look (K := fun w => w = v ∧ True) hxa' hkeep h1'
            simpa using this
          | _ => rw [hoy] at k2; simp [isStoreB] at k2
        | _ => rw [hox] at k1; simp [isLoadB] at k1
      · cases hox : x.op with
        | store t' q z =>
          cases hoy : y.op with
          | load t p =>
            have ep : p = .tmp b := by unfold addrT at hb; rw [hoy] at hb; cases p <;> simp_all
            have eq' : q = .tmp a := by unfold addrT at ha; rw [hox] at ha; cases q <;> simp_all
            subst ep; subst eq'
            have e2 : H2 = H1 := dK_keeps (by rw [hoy]; rfl) hy
            subst e2
            have hkeep := store_keep hox hxa' h1 j (fun e => hne e.symm)
            refine fin H ?_ (seen H H2 (by unfold Yv; rw [gx]; exact h1))
            unfold Yv
            rw [gy]
            dsimp only
            unfold dK at hy ⊢
            simp only [hoy] at hy ⊢
            have hy' : valK P (.load t (.tmp b)) (ev slots) H2 fun w => w = u ∧ True := hy
            have := load_look (K := fun w => w = u ∧ True) hyb' hkeep.symm hy'
            simpa using this
          | _ => rw [hoy] at k2; simp [isLoadB] at k2
        | _ => rw [hox] at k1; simp [isStoreB] at k1
    · cases hids
  · cases hids
theorem chain_frontF {P : Program} {ops : Array Oper} {ids : List (Tmp × Nat)} {y : Oper} {l2 : List Oper} : ∀ {l1 : List Oper} {s : St} {K : St → Prop}, (∀ s', K s' → Shows ids s'.slots) → (∀ x ∈ l1, x.apart ops y = true ∧ commF ids x y = true) → List.Pairwise Apt (l1 ++ y :: l2) → (∀ x ∈ l1 ++ y :: l2, Apt x x) → (∀ z ∈ l1 ++ y :: l2, Apt y z) →
    chain P ops (l1 ++ y :: l2) s K → chain P ops (y :: (l1 ++ l2)) s K
  | [], s, K, _, _, _, _, _, h => h
  | x :: l1, s, K, hKS, hx, hP, hS, hY, h => by
    rw [List.cons_append, List.pairwise_cons] at hP
    obtain ⟨v, H', hv, hr⟩ := h
    have h1 : chain P ops (x :: y :: (l1 ++ l2)) s K := ⟨v, H', hv, chain_frontF hKS (fun z hz => hx z (by simp [hz])) hP.2 (fun z hz => hS z (by simp only [List.cons_append, List.mem_cons]; exact .inr hz)) (fun z hz => hY z (by simp only [List.cons_append, List.mem_cons]; exact .inr hz)) hr⟩
    have hmem : ∀ z, z ∈ y :: (l1 ++ l2) → z ∈ l1 ++ y :: l2 := fun z hz => by
      rw [List.mem_cons, List.mem_append] at hz
      rw [List.mem_append, List.mem_cons]
      rcases hz with hz | hz | hz
      · exact .inr (.inl hz)
      · exact .inl hz
      · exact .inr (.inr hz)
    refine chain_swapF (rest := l1 ++ l2) hKS (hx x (by simp)).1 (hx x (by simp)).2 (fun z hz => ?_) (fun z hz => ?_) h1
    · rcases List.mem_cons.1 hz with rfl | hz
      · exact hS _ (by simp)
      · exact hP.1 z (hmem z hz)
    · rcases List.mem_cons.1 hz with rfl | hz
      · exact hY _ (by simp)
      · exact hY z (by rw [List.cons_append]; exact List.mem_cons_of_mem _ (hmem z hz))
section
variable {P : Program} {w0 : World} {O M : Nat → Prop}
theorem any_soundF {ops : Array Oper} {ids : List (Tmp × Nat)} (hB : drawF ids ops = true) {Q : Exit → Act → World → Prop} {K : St → Prop} (hKS : ∀ s', K s' → Shows ids s'.slots) (hQ : ∀ s' loc' a' w', K s' → a'.defers = [] → SimAt w0 O M s'.heap loc' s'.slots a'.tmps.toList w' → Q .normal a' w') :
    ∀ (n : Nat) (listed : Array Bool) (s : St) (loc : Nat → Value) (a : Act) (w : World), listed.size = ops.size → (unlisted ops listed).length = n → chain P ops ((unlisted ops listed).map fun i => ops.getD i default) s K → a.defers = [] →
      SimAt w0 O M s.heap loc s.slots a.tmps.toList w → wpAny P .any ops Q n listed a w
  | 0, listed, s, loc, a, w, hsz, hn, hc, hd, S => by
    have e : unlisted ops listed = [] := List.eq_nil_of_length_eq_zero hn
    rw [e] at hc
    refine ⟨?_, hQ s loc a w hc hd S⟩
    apply List.eq_nil_iff_forall_not_mem.2
    intro j hj
    obtain ⟨h1, o, h2, _⟩ := mem_ready.1 hj
    have : j ∈ unlisted ops listed := mem_unlisted.2 ⟨(Array.getElem?_eq_some_iff.1 h2).1, h1⟩
    rw [e] at this; cases this
  | n + 1, listed, s, loc, a, w, hsz, hn, hc, hd, S => by
    refine ⟨fun h0 => ?_, fun j hj => ?_⟩
    · -- the first that is left is ready
      exfalso
      obtain ⟨i, l, hl⟩ : ∃ i l, unlisted ops listed = i :: l := by
        cases hq : unlisted ops listed with
        | nil => rw [hq] at hn; cases hn
        | cons i l => exact ⟨i, l, rfl⟩
      have hi : i ∈ unlisted ops listed := by rw [hl]; simp
      obtain ⟨h1, h2⟩ := mem_unlisted.1 hi
      have hs := unlisted_sorted ops listed
      rw [hl, List.pairwise_cons] at hs
      have : i ∈ Region.ready .any ops listed := mem_ready.2 ⟨h2, ops[i], by simp [h1], fun e he hb => by
        have hlt := drawF_lt hB (j := i) (oj := ops[i]) (by simp [h1]) e he hb
        have hnot : e.on ∉ unlisted ops listed := by
          rw [hl]; intro hm
          rcases List.mem_cons.1 hm with hm | hm
          · omega
          · have := hs.1 _ hm; omega
        have h3 : ¬ (e.on < ops.size ∧ listed.getD e.on true = false) := fun hh => hnot (mem_unlisted.2 hh)
        have h4 : e.on < ops.size := by omega
        have h5 : listed.getD e.on true = true := by
          cases hq : listed.getD e.on true with
          | true => rfl
          | false => exact absurd ⟨h4, hq⟩ h3
        have h6 : e.on < listed.size := by omega
        simpa [Array.getD_eq_getD_getElem?, h6] using h5⟩
      rw [h0] at this; cases this
    · obtain ⟨h1, oj, h2, h3⟩ := mem_ready.1 hj
      have hm : j ∈ unlisted ops listed := mem_unlisted.2 ⟨(Array.getElem?_eq_some_iff.1 h2).1, h1⟩
      obtain ⟨l1, l2, hl⟩ := List.append_of_mem hm
      have hs := unlisted_sorted ops listed
      rw [hl, List.pairwise_append] at hs
      have hgj : ops.getD j default = oj := by simp [Array.getD_eq_getD_getElem?, h2]
      rw [hl, List.map_append, List.map_cons, hgj] at hc
      have hlisted : ∀ e ∈ oj.after, Region.binds .any e = true → listed.getD e.on true = true := fun e he hb => by
        have := h3 e he hb
        rcases Nat.lt_or_ge e.on listed.size with hlt | hge
        · simpa [Array.getD_eq_getD_getElem?, hlt] using this
        · simp [Array.getD_eq_getD_getElem?, hge]
      have hin : ∀ i, i ∈ l1 ++ j :: l2 → i < ops.size ∧ listed.getD i true = false := fun i hi => mem_unlisted.1 (by rw [hl]; exact hi)
      have hgd : ∀ i, i < ops.size → ops[i]? = some (ops.getD i default) := fun i g1 => by simp [Array.getD_eq_getD_getElem?, g1]
      have hal : (l1.map fun i => ops.getD i default) ++ oj :: (l2.map fun i => ops.getD i default) = (l1 ++ j :: l2).map fun i => ops.getD i default := by rw [List.map_append, List.map_cons, hgj]
      have hf := chain_frontF (ids := ids) (y := oj) (l1 := l1.map fun i => ops.getD i default) (l2 := l2.map fun i => ops.getD i default) hKS (fun x hx => by
        obtain ⟨i, hi, rfl⟩ := List.mem_map.1 hx
        have hij : i < j := hs.2.2 i hi j (by simp)
        obtain ⟨g1, g2⟩ := hin i (by simp [hi])
        refine drawF_comm hB (hgd i g1) h2 hij fun e he hb heq => ?_
        have := hlisted e he hb
        rw [heq, g2] at this; cases this) (by
        rw [hal, List.pairwise_map]
        refine List.Pairwise.imp_of_mem ?_ (hl ▸ unlisted_sorted ops listed)
        intro i k hi hk hik
        exact drawF_dst hB (hgd i (hin i hi).1) (hgd k (hin k hk).1) (fun h => absurd h.1 (by omega))) (fun x hx => by
        rw [hal] at hx
        obtain ⟨i, hi, rfl⟩ := List.mem_map.1 hx
        exact drawF_dst hB (hgd i (hin i hi).1) (hgd i (hin i hi).1) (fun h => absurd h.1 (by omega))) (fun x hx => by
        rw [hal] at hx
        obtain ⟨i, hi, rfl⟩ := List.mem_map.1 hx
        refine drawF_dst hB h2 (hgd i (hin i hi).1) (fun h => ?_)
        obtain ⟨_, e, he, hb, heq⟩ := h
        have := hlisted e he hb
        rw [heq, (hin i hi).2] at this; cases this) hc
      rw [← List.map_append] at hf
      obtain ⟨v, H', hY, hrest⟩ := hf
      have hset := unlisted_set hl hsz
      refine Yv_sound h2 hY S hd fun loc' a' w' hd' S' => ?_
      refine any_soundF hB hKS hQ n _ _ loc' a' w' (by simpa using hsz) ?_ (by rw [hset]; exact hrest) hd' S'
      rw [hset]
      have := congrArg List.length hl
      simp at this ⊢
      omega
theorem Runs.drawnF (ids : List (Tmp × Nat)) {f : FuncId} {post : V → Heap → Prop} {k : List Item} {s : St} {id : Nat} {l : List Oper} (hm : P.follows .mixedOrders = true) (hB : drawF ids l.toArray = true) (h : evalD P l.toArray l s fun s' => Shows ids s'.slots ∧ Runs P f post k s') :
    Runs P f post (.code (.region id l.toArray true) :: k) s :=
  Runs.of_wp fun w0 O M loc a w hd S => by
    refine wp_region_any hm ?_
    have hu : unlisted l.toArray (Array.replicate l.toArray.size false) = List.range l.toArray.size := by
      unfold unlisted
      rw [List.filter_eq_self]
      intro i hi
      have : i < l.length := by simpa using hi
      simp [Array.getD_eq_getD_getElem?, this]
    have hmap : (List.range l.toArray.size).map (fun i => l.toArray.getD i default) = l := by
      apply List.ext_getElem
      · simp
      · intro i h1 h2
        simp [Array.getD_eq_getD_getElem?, h2]
    have := any_soundF (P := P) (w0 := w0) (O := O) (M := M) hB (K := fun s' => Shows ids s'.slots ∧ Runs P f post k s') (fun s' h => h.1) (Q := fun e a' w' => e = .normal ∧ ∃ s' loc', Runs P f post k s' ∧ a'.defers = [] ∧ SimAt w0 O M s'.heap loc' s'.slots a'.tmps.toList w')
      (fun s' loc' a' w' hR hd' S' => ⟨rfl, s', loc', hR.2, hd', S'⟩) l.toArray.size (Array.replicate l.toArray.size false) s loc a { w with drawn := w.drawn + 1 } (by simp) (by rw [hu]; simp) (by rw [hu, hmap]; exact chain_of_evalD h) hd
      (S.grows (Grows.drew w))
    exact this
end
end Go.AM
namespace Go.AM
open V (Le LeL)
def predsB (ops : Array Oper) (j : Nat) : List Nat := match ops[j]? with
  | some o => (o.after.toList.filter fun e => Region.binds .any e).map (·.on)
  | none => []
def upB (ops : Array Oper) : Nat → Nat → List Nat
  | 0, j => predsB ops j
  | n + 1, j => predsB ops j ++ (predsB ops j).flatMap (upB ops n)
def drawT (ids : List (Tmp × Nat)) (ops : Array Oper) (m : Nat) : Bool :=
  (List.range ops.size).all fun j => match ops[j]? with
    | some oj => oj.after.all (fun e => !Region.binds .any e || decide (e.on < j)) && if j < m then ((List.range j).all fun i => match ops[i]? with
        | some oi => oj.after.any (fun e => Region.binds .any e && e.on == i) || (oi.apart ops oj && commF ids oi oj)
        | none => true) && (List.range m).all fun k => match ops[k]? with
          | some ok => match addrT oj with
            | some a => !(ok.dst == some a) || (decide (k < j) && oj.after.any (fun e => Region.binds .any e && e.on == k))
            | none => true
          | none => true
        else oj.guard.isNone && (List.range j).all fun i => (upB ops 9 j).contains i
    | none => true
section
variable {ids : List (Tmp × Nat)} {ops : Array Oper} {m : Nat}
theorem drawT_lt (h : drawT ids ops m = true) {j : Nat} {oj : Oper} (hj : ops[j]? = some oj) : ∀ e ∈ oj.after, Region.binds .any e = true → e.on < j := by
  have h1 := List.all_eq_true.1 h j (List.mem_range.2 (Array.getElem?_eq_some_iff.1 hj).1)
  simp only [hj, Bool.and_eq_true] at h1
  intro e he hb
  have := (Array.all_eq_true'.1 h1.1) e he
  simpa [hb] using this
theorem drawT_comm (h : drawT ids ops m = true) {i j : Nat} {oi oj : Oper} (hi : ops[i]? = some oi) (hj : ops[j]? = some oj) (hij : i < j) (hjm : j < m) (hno : ∀ e ∈ oj.after, Region.binds .any e = true → e.on ≠ i) :
    oi.apart ops oj = true ∧ commF ids oi oj = true := by
  have h1 := List.all_eq_true.1 h j (List.mem_range.2 (Array.getElem?_eq_some_iff.1 hj).1)
  simp only [hj, Bool.and_eq_true, if_pos hjm] at h1
  have h2 := List.all_eq_true.1 h1.2.1 i (List.mem_range.2 hij)
  simp only [hi, Bool.or_eq_true, Bool.and_eq_true] at h2
  rcases h2 with h2 | h2
  · obtain ⟨e, he, h3⟩ := (Array.any_eq_true').1 h2
    simp only [Bool.and_eq_true, beq_iff_eq] at h3
    exact absurd h3.2 (hno e he h3.1)
  · exact h2
theorem drawT_dst (h : drawT ids ops m = true) {j k : Nat} {oj ok : Oper} (hj : ops[j]? = some oj) (hk : ops[k]? = some ok) (hjm : j < m) (hkm : k < m) (hno : ¬ (k < j ∧ ∃ e, e ∈ oj.after ∧ Region.binds .any e = true ∧ e.on = k)) : Apt oj ok := by
  intro a ha e
  have h1 := List.all_eq_true.1 h j (List.mem_range.2 (Array.getElem?_eq_some_iff.1 hj).1)
  simp only [hj, Bool.and_eq_true, if_pos hjm] at h1
  have h2 := List.all_eq_true.1 h1.2.2 k (List.mem_range.2 hkm)
  simp only [hk, ha, e, beq_self_eq_true, Bool.not_true, Bool.false_or, Bool.and_eq_true, decide_eq_true_eq] at h2
  obtain ⟨e', he, h3⟩ := (Array.any_eq_true').1 h2.2
  simp only [Bool.and_eq_true, beq_iff_eq] at h3
  exact hno ⟨h2.1, e', he, h3.1, h3.2⟩
theorem drawT_tail (h : drawT ids ops m = true) {j : Nat} {oj : Oper} (hj : ops[j]? = some oj) (hjm : m ≤ j) : oj.guard = none ∧ ∀ i, i < j → i ∈ upB ops 9 j := by
  have h1 := List.all_eq_true.1 h j (List.mem_range.2 (Array.getElem?_eq_some_iff.1 hj).1)
  simp only [hj, Bool.and_eq_true, if_neg (show ¬ j < m by omega)] at h1
  refine ⟨by simpa using h1.2.1, fun i hi => ?_⟩
  have := List.all_eq_true.1 h1.2.2 i (List.mem_range.2 hi)
  simpa using this
def ClosedL (ops : Array Oper) (listed : Array Bool) : Prop := ∀ k, listed.getD k false = true → ∀ p ∈ predsB ops k, listed.getD p false = true
theorem up_listed {listed : Array Bool} (hc : ClosedL ops listed) : ∀ (n j : Nat), (∀ p ∈ predsB ops j, listed.getD p false = true) → ∀ i ∈ upB ops n j, listed.getD i false = true
  | 0, j, h, i, hi => h i hi
  | n + 1, j, h, i, hi => by
    rw [upB, List.mem_append, List.mem_flatMap] at hi
    rcases hi with hi | ⟨p, hp, hi⟩
    · exact h i hi
    · exact up_listed hc n p (hc p (h p hp)) i hi
theorem ready_preds {j : Nat} {oj : Oper} {listed : Array Bool} (hj : ops[j]? = some oj) (h : ∀ e ∈ oj.after, Region.binds .any e = true → listed.getD e.on false = true) : ∀ p ∈ predsB ops j, listed.getD p false = true := by
  intro p hp
  unfold predsB at hp
  rw [hj] at hp
  simp only [List.mem_map, List.mem_filter] at hp
  obtain ⟨e, ⟨he, hb⟩, rfl⟩ := hp
  exact h e (by simpa using he) hb
theorem listed_mono {listed : Array Bool} {j p : Nat} (h : listed.getD p false = true) : (listed.setIfInBounds j true).getD p false = true := by
  simp only [Array.getD_eq_getD_getElem?, Array.getElem?_setIfInBounds] at h ⊢
  split
  · split <;> simp_all
  · exact h
theorem closed_set {listed : Array Bool} {j : Nat} (hc : ClosedL ops listed) (hp : ∀ p ∈ predsB ops j, listed.getD p false = true) : ClosedL ops (listed.setIfInBounds j true) := by
  intro k hk p hpk
  by_cases hjk : j = k
  · subst hjk; exact listed_mono (hp p hpk)
  · refine listed_mono (hc k ?_ p hpk)
    simpa [Array.getD_eq_getD_getElem?, Array.getElem?_setIfInBounds_ne hjk] using hk
def unlM (m : Nat) (listed : Array Bool) : List Nat := (List.range m).filter fun i => !listed.getD i true
theorem unlM_sorted (m : Nat) (listed : Array Bool) : (unlM m listed).Pairwise (· < ·) := List.Pairwise.filter _ List.pairwise_lt_range
theorem mem_unlM {listed : Array Bool} {i : Nat} : i ∈ unlM m listed ↔ i < m ∧ listed.getD i true = false := by
  simp [unlM]
theorem unlM_set {listed : Array Bool} {j : Nat} {l1 l2 : List Nat} (h : unlM m listed = l1 ++ j :: l2) (hlt : j < listed.size) :
    unlM m (listed.setIfInBounds j true) = l1 ++ l2 := by
  have hs := unlM_sorted m listed
  have e1 : unlM m (listed.setIfInBounds j true) = (unlM m listed).filter fun i => i != j := by
    unfold unlM
    rw [List.filter_filter]
    apply List.filter_congr
    intro i hi
    by_cases hij : j = i
    · subst hij
      simp [Array.getD_eq_getD_getElem?, hlt]
    · have hij' : i ≠ j := fun e => hij e.symm
      simp [Array.getD_eq_getD_getElem?, Array.getElem?_setIfInBounds_ne hij, hij']
  rw [e1, h]
  rw [h, List.pairwise_append] at hs
  obtain ⟨_, hs2, hs3⟩ := hs
  rw [List.pairwise_cons] at hs2
  rw [List.filter_append, List.filter_cons_of_neg (by simp)]
  congr 1
  · rw [List.filter_eq_self]; intro x hx; have := hs3 x hx j (by simp); simp; omega
  · rw [List.filter_eq_self]; intro x hx; have := hs2.1 x hx; simp; omega
end
section
variable {P : Program} {w0 : World} {O M : Nat → Prop} {ids : List (Tmp × Nat)} {ops : Array Oper} {m : Nat}
theorem getD_tf {listed : Array Bool} {i : Nat} (h : i < listed.size) (b c : Bool) : listed.getD i b = listed.getD i c := by simp [Array.getD_eq_getD_getElem?, h]
theorem tail_sound (hB : drawT ids ops m = true) {Q : Exit → Act → World → Prop} {K : St → Prop} (hQ : ∀ s' loc' a' w', K s' → a'.defers = [] → SimAt w0 O M s'.heap loc' s'.slots a'.tmps.toList w' → Q .normal a' w') :
    ∀ (r p : Nat) (listed : Array Bool) (s : St) (loc : Nat → Value) (a : Act) (w : World), m ≤ p → p + r = ops.size → listed.size = ops.size → (∀ i, i < p → listed.getD i false = true) → (∀ i, p ≤ i → i < ops.size → listed.getD i true = false) →
      evalR P ops (ops.toList.drop p) s K → a.defers = [] → SimAt w0 O M s.heap loc s.slots a.tmps.toList w → wpAny P .any ops Q r listed a w
  | 0, p, listed, s, loc, a, w, hmp, hpr, hsz, hl, hu, he, hd, S => by
    rw [List.drop_of_length_le (by rw [Array.length_toList]; omega)] at he
    refine ⟨?_, hQ s loc a w he hd S⟩
    apply List.eq_nil_iff_forall_not_mem.2
    intro j hj
    obtain ⟨h1, o, h2, _⟩ := mem_ready.1 hj
    have hjs := (Array.getElem?_eq_some_iff.1 h2).1
    have := hl j (by omega)
    rw [getD_tf (by omega) false true, h1] at this; cases this
  | r + 1, p, listed, s, loc, a, w, hmp, hpr, hsz, hl, hu, he, hd, S => by
    have hps : p < ops.size := by omega
    have hop : ops[p]? = some ops[p] := by simp [hps]
    have hcl : ClosedL ops listed := by
      intro k hk q hq
      have hkp : k < p := by
        rcases Nat.lt_or_ge k p with h | h
        · exact h
        · exfalso
          rcases Nat.lt_or_ge k ops.size with h2 | h2
          · have := hu k h h2
            rw [getD_tf (by omega) true false, hk] at this; cases this
          · have : listed.getD k false = false := by simp [Array.getD_eq_getD_getElem?, show listed.size ≤ k by omega]
            rw [hk] at this; cases this
      unfold predsB at hq
      have hok : ops[k]? = some ops[k] := by simp [show k < ops.size by omega]
      rw [hok] at hq
      simp only [List.mem_map, List.mem_filter] at hq
      obtain ⟨e, ⟨he', hb⟩, rfl⟩ := hq
      have := drawT_lt hB hok e (by simpa using he') hb
      exact hl _ (by omega)
    refine ⟨fun h0 => ?_, fun j hj => ?_⟩
    · exfalso
      have : p ∈ Region.ready .any ops listed := mem_ready.2 ⟨hu p (Nat.le_refl _) hps, ops[p], hop, fun e he' hb => hl _ (drawT_lt hB hop e he' hb)⟩
      rw [h0] at this; cases this
    · obtain ⟨h1, oj, h2, h3⟩ := mem_ready.1 hj
      have hjs := (Array.getElem?_eq_some_iff.1 h2).1
      have hjp : j = p := by
        rcases Nat.lt_trichotomy j p with h | h | h
        · have := hl j h
          rw [getD_tf (by omega) false true, h1] at this; cases this
        · exact h
        · have := up_listed hcl 9 j (ready_preds h2 h3) p ((drawT_tail hB h2 (by omega)).2 p h)
          rw [getD_tf (by omega) false true, hu p (Nat.le_refl _) hps] at this; cases this
      subst hjp
      obtain ⟨hg, _⟩ := drawT_tail hB h2 hmp
      rw [List.drop_eq_getElem_cons (by rw [Array.length_toList]; exact hps)] at he
      have ho : ops.toList[j]'(by rw [Array.length_toList]; exact hps) = oj := by
        have := (Array.getElem?_eq_some_iff.1 h2).2
        simpa using this
      rw [ho] at he
      unfold evalR at he
      rw [hg] at he
      dsimp only at he
      unfold wpOp
      simp only [h2]
      rw [if_pos (by simp [Region.wanted, hg])]
      refine .inl (step_sound he hd S fun v s' loc' x w' hK S' hr => ?_)
      obtain ⟨S'', hd'⟩ := put_sim S' hr oj.dst
      refine tail_sound hB hQ r (j + 1) _ _ loc' _ w' (by omega) (by omega) (by simpa using hsz) (fun i hi => ?_) (fun i hi his => ?_) hK (hd'.trans hd) S''
      · by_cases hij : i = j
        · subst hij; simp [Array.getD_eq_getD_getElem?, show i < listed.size by omega]
        · exact listed_mono (hl i (by omega))
      · have := hu i (by omega) his
        simpa [Array.getD_eq_getD_getElem?, Array.getElem?_setIfInBounds_ne (show j ≠ i by omega)] using this
theorem any_soundT (hB : drawT ids ops m = true) (hms : m ≤ ops.size) {Q : Exit → Act → World → Prop} {K : St → Prop} (hQ : ∀ s' loc' a' w', K s' → a'.defers = [] → SimAt w0 O M s'.heap loc' s'.slots a'.tmps.toList w' → Q .normal a' w') :
    ∀ (n : Nat) (listed : Array Bool) (s : St) (loc : Nat → Value) (a : Act) (w : World), listed.size = ops.size → ClosedL ops listed → (∀ i, m ≤ i → i < ops.size → listed.getD i true = false) → (unlM m listed).length = n →
      chain P ops ((unlM m listed).map fun i => ops.getD i default) s (fun s' => Shows ids s'.slots ∧ evalR P ops (ops.toList.drop m) s' K) → a.defers = [] →
      SimAt w0 O M s.heap loc s.slots a.tmps.toList w → wpAny P .any ops Q (n + (ops.size - m)) listed a w
  | 0, listed, s, loc, a, w, hsz, hcl, hun, hn, hc, hd, S => by
    have e : unlM m listed = [] := List.eq_nil_of_length_eq_zero hn
    rw [e] at hc
    rw [Nat.zero_add]
    refine tail_sound hB hQ (ops.size - m) m listed s loc a w (Nat.le_refl _) (by omega) hsz (fun i hi => ?_) hun hc.2 hd S
    cases hq : listed.getD i true with
    | true => rw [getD_tf (by omega) false true]; exact hq
    | false =>
      have : i ∈ unlM m listed := mem_unlM.2 ⟨hi, hq⟩
      rw [e] at this; cases this
  | n + 1, listed, s, loc, a, w, hsz, hcl, hun, hn, hc, hd, S => by
    obtain ⟨i0, l0, hl0⟩ : ∃ i l, unlM m listed = i :: l := by
      cases hq : unlM m listed with
      | nil => rw [hq] at hn; cases hn
      | cons i l => exact ⟨i, l, rfl⟩
    have hi0 : i0 ∈ unlM m listed := by rw [hl0]; simp
    obtain ⟨g1, g2⟩ := mem_unlM.1 hi0
    have hs0 := unlM_sorted m listed
    rw [hl0, List.pairwise_cons] at hs0
    rw [show n + 1 + (ops.size - m) = (n + (ops.size - m)) + 1 by omega]
    refine ⟨fun h0 => ?_, fun j hj => ?_⟩
    · exfalso
      have hop : ops[i0]? = some ops[i0] := by simp [show i0 < ops.size by omega]
      have : i0 ∈ Region.ready .any ops listed := mem_ready.2 ⟨g2, ops[i0], hop, fun e he hb => by
        have hlt := drawT_lt hB hop e he hb
        cases hq : listed.getD e.on true with
        | true => rw [getD_tf (by omega) false true]; exact hq
        | false =>
          have : e.on ∈ unlM m listed := mem_unlM.2 ⟨by omega, hq⟩
          rw [hl0] at this
          rcases List.mem_cons.1 this with hm | hm
          · omega
          · have := hs0.1 _ hm; omega⟩
      rw [h0] at this; cases this
    · obtain ⟨h1, oj, h2, h3⟩ := mem_ready.1 hj
      have hjs := (Array.getElem?_eq_some_iff.1 h2).1
      have hjm : j < m := by
        rcases Nat.lt_or_ge j m with h | h
        · exact h
        · exfalso
          have := up_listed hcl 9 j (ready_preds h2 h3) i0 ((drawT_tail hB h2 h).2 i0 (by omega))
          rw [getD_tf (by omega) false true, g2] at this; cases this
      have hmj : j ∈ unlM m listed := mem_unlM.2 ⟨hjm, h1⟩
      obtain ⟨l1, l2, hl⟩ := List.append_of_mem hmj
      have hs := unlM_sorted m listed
      rw [hl, List.pairwise_append] at hs
      have hgj : ops.getD j default = oj := by simp [Array.getD_eq_getD_getElem?, h2]
      rw [hl, List.map_append, List.map_cons, hgj] at hc
      have hlisted : ∀ e ∈ oj.after, Region.binds .any e = true → listed.getD e.on true = true := fun e he hb => by
        have h4 := h3 e he hb
        have hlt := drawT_lt hB h2 e he hb
        rw [getD_tf (by omega) true false]; exact h4
      have hin : ∀ i, i ∈ l1 ++ j :: l2 → i < m ∧ listed.getD i true = false := fun i hi => mem_unlM.1 (by rw [hl]; exact hi)
      have hgd : ∀ i, i < m → ops[i]? = some (ops.getD i default) := fun i q1 => by simp [Array.getD_eq_getD_getElem?, show i < ops.size by omega]
      have hal : (l1.map fun i => ops.getD i default) ++ oj :: (l2.map fun i => ops.getD i default) = (l1 ++ j :: l2).map fun i => ops.getD i default := by rw [List.map_append, List.map_cons, hgj]
      have hf := chain_frontF (ids := ids) (y := oj) (l1 := l1.map fun i => ops.getD i default) (l2 := l2.map fun i => ops.getD i default) (fun s' h => h.1) (fun x hx => by
        obtain ⟨i, hi, rfl⟩ := List.mem_map.1 hx
        have hij : i < j := hs.2.2 i hi j (by simp)
        obtain ⟨q1, q2⟩ := hin i (by simp [hi])
        refine drawT_comm hB (hgd i q1) h2 hij hjm fun e he hb heq => ?_
        have := hlisted e he hb
        rw [heq, q2] at this; cases this) (by
        rw [hal, List.pairwise_map]
        refine List.Pairwise.imp_of_mem ?_ (hl ▸ unlM_sorted m listed)
        intro i k hi hk hik
        exact drawT_dst hB (hgd i (hin i hi).1) (hgd k (hin k hk).1) (hin i hi).1 (hin k hk).1 (fun h => absurd h.1 (by omega))) (fun x hx => by
        rw [hal] at hx
        obtain ⟨i, hi, rfl⟩ := List.mem_map.1 hx
        exact drawT_dst hB (hgd i (hin i hi).1) (hgd i (hin i hi).1) (hin i hi).1 (hin i hi).1 (fun h => absurd h.1 (by omega))) (fun x hx => by
        rw [hal] at hx
        obtain ⟨i, hi, rfl⟩ := List.mem_map.1 hx
        refine drawT_dst hB h2 (hgd i (hin i hi).1) hjm (hin i hi).1 (fun h => ?_)
        obtain ⟨_, e, he, hb, heq⟩ := h
        have := hlisted e he hb
        rw [heq, (hin i hi).2] at this; cases this) hc
      rw [← List.map_append] at hf
      obtain ⟨v, H', hY, hrest⟩ := hf
      have hset := unlM_set hl (show j < listed.size by omega)
      refine Yv_sound h2 hY S hd fun loc' a' w' hd' S' => ?_
      refine any_soundT hB hms hQ n _ _ loc' a' w' (by simpa using hsz) (closed_set hcl (ready_preds h2 h3)) (fun i hi his => ?_) ?_ (by rw [hset]; exact hrest) hd' S'
      · have := hun i hi his
        simpa [Array.getD_eq_getD_getElem?, Array.getElem?_setIfInBounds_ne (show j ≠ i by omega)] using this
      · rw [hset]
        have := congrArg List.length hl
        simp at this ⊢
        omega
theorem Runs.drawnT (ids : List (Tmp × Nat)) (m : Nat) {f : FuncId} {post : V → Heap → Prop} {k : List Item} {s : St} {id : Nat} {l : List Oper} (hm : P.follows .mixedOrders = true) (hB : drawT ids l.toArray m = true) (hml : m ≤ l.length)
    (h : evalD P l.toArray (l.take m) s fun s' => Shows ids s'.slots ∧ evalR P l.toArray (l.drop m) s' (Runs P f post k)) :
    Runs P f post (.code (.region id l.toArray true) :: k) s :=
  Runs.of_wp fun w0 O M loc a w hd S => by
    refine wp_region_any hm ?_
    have hu : unlM m (Array.replicate l.toArray.size false) = List.range m := by
      unfold unlM
      rw [List.filter_eq_self]
      intro i hi
      have : i < l.length := by have := List.mem_range.1 hi; omega
      simp [Array.getD_eq_getD_getElem?, this]
    have hmap : (List.range m).map (fun i => l.toArray.getD i default) = l.take m := by
      apply List.ext_getElem
      · simp; omega
      · intro i h1 h2
        have : i < l.length := by simp at h2; omega
        simp [Array.getD_eq_getD_getElem?, this]
    have hsm : l.toArray.size = m + (l.toArray.size - m) := by simp; omega
    have := any_soundT (P := P) (w0 := w0) (O := O) (M := M) (m := m) hB (by simpa using hml) (K := Runs P f post k) (Q := fun e a' w' => e = .normal ∧ ∃ s' loc', Runs P f post k s' ∧ a'.defers = [] ∧ SimAt w0 O M s'.heap loc' s'.slots a'.tmps.toList w')
      (fun s' loc' a' w' hR hd' S' => ⟨rfl, s', loc', hR, hd', S'⟩) m (Array.replicate l.toArray.size false) s loc a { w with drawn := w.drawn + 1 } (by simp) (by
        intro k hk
        exfalso
        have : (Array.replicate l.toArray.size false).getD k false = false := by
          simp only [Array.getD_eq_getD_getElem?, Array.getElem?_replicate]; split <;> rfl
        rw [hk] at this; cases this) (fun i _ hi => by simp only [Array.getD_eq_getD_getElem?, Array.getElem?_replicate]; rw [if_pos hi]; rfl) (by rw [hu]; simp) (by rw [hu, hmap]; exact chain_of_evalD (by simpa using h)) hd
      (S.grows (Grows.drew w))
    rw [← hsm] at this
    exact this
end
end Go.AM
