/- The abstract machine, part 14: how calls are taken by contract; regions whose order is drawn. -/
import Derived.Test.YtmhnmookgbmmbaaAm13
set_option linter.unusedVariables false
set_option linter.unusedSimpArgs false
namespace Go.AM
open V (Le LeL)

section
variable {P : Program} {s : St} {K : V → St → Prop}

theorem Le.dataL {vs us : List V} (h : LeL vs us) : True := trivial

/-- Values of data, seen from a callee: the caller's objects belong to others. -/
def Others (O : Nat → Prop) (H : Heap) (loc : Nat → Value) (b : Nat) : Prop := O b ∨ Owned H loc b

theorem to_callee {w0 : World} {O M : Nat → Prop} {H : Heap} {loc : Nat → Value} {vs : List V} {xs : List Value} {w : World} (S : SimAt w0 O M H loc vs xs w) {us : List V} {ys : List Value} (hr : RelL (env w O H loc) ys us) (hd : V.dataL us = true) :
    SimAt w (Others O H loc) (Owned [] loc) [] loc us ys w := by
  have hF : ∀ b, (env w O H loc).F b → (env w (Others O H loc) [] loc).F b ∧ (env w (Others O H loc) [] loc).w.heap[b]? = (env w O H loc).w.heap[b]? := by
    intro b hb
    refine ⟨⟨hb.1, ?_, fun id h => by simp [look] at h⟩, rfl⟩
    rintro (h | ⟨id, h1, h2⟩)
    · exact hb.2.1 h
    · exact hb.2.2 id h1 h2
  refine ⟨⟨hr.1, fun i hi => (hr.2 i hi).data_mono hF (V.dataL_getD hd i)⟩, fun id o h => by simp [look] at h, fun id id' b h => by simp [look] at h, fun id b h => by simp [look] at h, Ext.refl w _, ?_⟩
  rintro b (h | ⟨id, h1, h2⟩)
  · exact Nat.lt_of_lt_of_le (S.O_lt b h) S.ext.size
  · exact S.lt h1 h2

/-- A call of data to data. -/
theorem CallS.fn {f : FuncId} {caps vs us : List V} {r : V} (hs : Fn P f us r) (hb : hasBody P f) (hle : LeL (vs ++ caps) us) (hd : V.dataL us = true) (hK : K r s) : CallS P (.fn f caps) vs s K := by
  intro w0 O M loc xs w fx ys S hf hy
  obtain ⟨arr, rfl, harr⟩ := Rel.fn_iff.1 hf
  refine ⟨f, arr, rfl, hb, ?_⟩
  have hr := (hy.append harr).le hle
  have S1 := to_callee S hr hd
  have := hs w (Others O s.heap loc) _ loc S1
  rw [show ys.toArray ++ arr = (ys ++ arr.toList).toArray by simp]
  refine this.mono ?_
  rintro e w' ⟨r', H', x, loc', ⟨rfl, rfl⟩, rfl, S2⟩
  have hg : Grows w w' := ⟨S2.ext.os, S2.ext.tape, S2.ext.output, S2.ext.size, fun b hb _ => S2.ext.block b hb (by rintro ⟨id, h1, h2⟩; simp [look] at h1)⟩
  have hx := (S2.vals.uncons).1
  have hdr : r'.data = true := rel_data (E := env w' (Others O s.heap loc) [] loc') (fun id => rfl) hx
  refine ⟨r', s, x, loc, hK, rfl, S.grows hg, hx.data_mono (E := env w' (Others O s.heap loc) [] loc') (E' := env w' O s.heap loc) (fun b hb => ⟨⟨hb.1, fun h => hb.2.1 (.inl h), fun id h1 h2 => hb.2.1 (.inr ⟨id, h1, h2⟩)⟩, rfl⟩) hdr⟩

/-- A call of data to one of several data. -/
theorem CallS.rel {f : FuncId} {caps vs us : List V} {Q : V → Prop} (hs : Spec P f us [] fun r H' => Q r ∧ H' = []) (hb : hasBody P f) (hle : LeL (vs ++ caps) us) (hd : V.dataL us = true) (hK : ∀ r, Q r → r.data = true → K r s) : CallS P (.fn f caps) vs s K := by
  intro w0 O M loc xs w fx ys S hf hy
  obtain ⟨arr, rfl, harr⟩ := Rel.fn_iff.1 hf
  refine ⟨f, arr, rfl, hb, ?_⟩
  have hr := (hy.append harr).le hle
  have S1 := to_callee S hr hd
  have := hs w (Others O s.heap loc) _ loc S1
  rw [show ys.toArray ++ arr = (ys ++ arr.toList).toArray by simp]
  refine this.mono ?_
  rintro e w' ⟨r', H', x, loc', ⟨hq, rfl⟩, rfl, S2⟩
  have hg : Grows w w' := ⟨S2.ext.os, S2.ext.tape, S2.ext.output, S2.ext.size, fun b hb _ => S2.ext.block b hb (by rintro ⟨id, h1, h2⟩; simp [look] at h1)⟩
  have hx := (S2.vals.uncons).1
  have hdr : r'.data = true := rel_data (E := env w' (Others O s.heap loc) [] loc') (fun id => rfl) hx
  refine ⟨r', s, x, loc, hK r' hq hdr, rfl, S.grows hg, hx.data_mono (E := env w' (Others O s.heap loc) [] loc') (E' := env w' O s.heap loc) (fun b hb => ⟨⟨hb.1, fun h => hb.2.1 (.inl h), fun id h1 h2 => hb.2.1 (.inr ⟨id, h1, h2⟩)⟩, rfl⟩) hdr⟩

/-- A call of data that hands back a list of the caller's own from then on: it is named 'd'. -/
theorem CallS.own {f : FuncId} {caps vs us : List V} {t : TypeId} {sz : Nat} {Q : List V → Prop} (d : Nat) (hs : Spec P f us [] (OwnPost t sz Q)) (hb : hasBody P f) (hle : LeL (vs ++ caps) us) (hd : V.dataL us = true) (hfree : look s.heap d = none)
    (hK : ∀ es, Q es → V.dataL es = true → K (.own d) ⟨s.slots, (d, .lst t sz es) :: s.heap⟩) : CallS P (.fn f caps) vs s K := by
  intro w0 O M loc xs w fx ys S hf hy
  obtain ⟨arr, rfl, harr⟩ := Rel.fn_iff.1 hf
  refine ⟨f, arr, rfl, hb, ?_⟩
  have hr := (hy.append harr).le hle
  have S1 := to_callee S hr hd
  have := hs w (Others O s.heap loc) _ loc S1
  rw [show ys.toArray ++ arr = (ys ++ arr.toList).toArray by simp]
  refine this.mono ?_
  rintro e w' ⟨r', H', x, loc', ⟨es, hq, rfl, rfl⟩, rfl, S2⟩
  have hg : Grows w w' := ⟨S2.ext.os, S2.ext.tape, S2.ext.output, S2.ext.size, fun b hb _ => S2.ext.block b hb (by rintro ⟨id, h1, h2⟩; simp [look] at h1)⟩
  have hob := S2.objs 0 _ (look_eq 0 _ _)
  have hdes : V.dataL es = true := hob.1.2
  have hxe : x = loc' 0 := (S2.vals.uncons.1.own_inv).1
  have hnb : ∀ b, blk (loc' 0) = some b → w.heap.size ≤ b := fun b hb => (S2.own 0 b (by simp [look]) hb).2.resolve_right (by rintro ⟨id, h1, h2⟩; simp [look] at h1)
  obtain ⟨k1, k2⟩ := S.new d hfree hg (loc' 0) (.lst t sz es) hnb (fun hrel => by
    obtain ⟨hz, ys', q, hfl⟩ := hob
    refine ⟨hz, ys', ?_, hfl.1, fun i j hi hj => ?_⟩
    · show w'.ownsRow 0 t sz (if d = d then loc' 0 else loc d) _ _
      rw [if_pos rfl]; exact q
    · refine (hfl.2 i j hi hj).data_mono (E := env w' (Others O s.heap loc) [(0, .lst t sz es)] loc') (E' := env w' O ((d, .lst t sz es) :: s.heap) (fun k => if k = d then loc' 0 else loc k)) (fun b hb => ⟨⟨hb.1, fun h => hb.2.1 (.inl h), fun id h1 h2 => ?_⟩, rfl⟩) (V.data_getD_cells hdes i j)
      replace h2 : blk (if id = d then loc' 0 else loc id) = some b := h2
      by_cases e : id = d
      · rw [if_pos e] at h2; exact hb.2.2 0 (by simp [look]) h2
      · rw [if_neg e] at h2
        rw [look_ne e] at h1
        exact hb.2.1 (.inr ⟨id, h1, h2⟩))
  refine ⟨.own d, _, x, _, hK es hq hdes, rfl, k1, ?_⟩
  have hv : ∃ a n c, (env w' O ((d, .lst t sz es) :: s.heap) (fun k => if k = d then loc' 0 else loc k)).loc d = .slice a n c := by
    rcases blk_own (k1.objs d _ (look_eq d _ _)) with ⟨g, c, e, _⟩ | ⟨e, _⟩ <;> exact ⟨_, _, _, e⟩
  have := Rel.own (E := env w' O ((d, .lst t sz es) :: s.heap) (fun k => if k = d then loc' 0 else loc k)) d (.lst t sz es) (look_eq d (.lst t sz es) s.heap) rfl hv
  rw [hxe]
  simpa [env] using this

/-- Ghost steps ahead of a call. -/
theorem Owned_mono {H H' : Heap} {loc : Nat → Value} (h : ∀ id, (look H id).isSome = true → (look H' id).isSome = true) {b : Nat} (hb : Owned H loc b) : Owned H' loc b :=
  let ⟨id, h1, h2⟩ := hb; ⟨id, h id h1, h2⟩
end
end Go.AM
