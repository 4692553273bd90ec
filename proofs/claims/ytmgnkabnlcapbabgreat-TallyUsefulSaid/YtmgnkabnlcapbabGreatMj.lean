/- A call that is lent objects and returns a list of the caller's own. Own work; imports the kit's laws only. -/
import Derived.Test.YtmgnkabnlcapbabGreatMe
set_option linter.unusedVariables false
set_option linter.unusedSimpArgs false
set_option maxRecDepth 8000
set_option maxHeartbeats 1000000
namespace Go.AM
open V (Le LeL)
theorem V.flat_cell {v : V} (h : v.flat = true) (j : Nat) : (v.cells.getD j .any).flat = true := by
  cases v with
  | agg cs =>
    have h2 : V.flatL cs = true := by rw [V.flat] at h; exact h
    exact V.flatL_getD h2 j
  | _ =>
    cases j with
    | zero => exact h
    | succ j => rfl
theorem CallS.lendOwn {P : Program} {s : St} {K : V → St → Prop} {f : FuncId} {caps vs us : List V} {t : TypeId} {sz : Nat} {Q : List V → Prop} (d : Nat) (hs : Spec P f us [] (OwnPost t sz Q)) (hb : hasBody P f) (hle : SeeL s.heap (vs ++ caps) us)
    (hfl : ∀ es, Q es → V.flatL es = true) (hfree : look s.heap d = none) (hK : ∀ es, Q es → V.dataL es = true → K (.own d) ⟨s.slots, (d, .lst t sz es) :: s.heap⟩) : CallS P (.fn f caps) vs s K := by
  intro w0 O M loc xs w fx ys S hf hy
  obtain ⟨arr, rfl, harr⟩ := Rel.fn_iff.1 hf
  refine ⟨f, arr, rfl, .inl ⟨hb, ?_⟩⟩
  obtain ⟨hr', hd⟩ := hle.rel S (hy.append harr)
  have := hs w O _ loc (to_lent S hr' hd)
  rw [show ys.toArray ++ arr = (ys ++ arr.toList).toArray by simp]
  refine this.mono ?_
  rintro e w' ⟨r', H', x, loc', ⟨es, hq, rfl, rfl⟩, rfl, S2⟩
  have hg : Grows w w' := ⟨S2.ext.os, S2.ext.tape, S2.ext.output, S2.ext.size, fun b hb _ => S2.ext.block b hb (by rintro ⟨id, h1, h2⟩; simp [look] at h1)⟩
  have hob := S2.objs 0 _ (look_eq 0 _ _)
  have hdes : V.dataL es = true := hob.1.2
  have hxe : x = loc' 0 := (S2.vals.uncons.1.own_inv).1
  have hnb : ∀ b, blk (loc' 0) = some b → w.heap.size ≤ b := fun b hb => (S2.own 0 b (by simp [look]) hb).2.resolve_right (by rintro ⟨id, h1, h2⟩; simp [look] at h1)
  obtain ⟨k1, k2⟩ := S.new d hfree hg (loc' 0) (.lst t sz es) hnb (fun hrel => by
    obtain ⟨hz, ys', q, hfl2⟩ := hob
    refine ⟨hz, ys', ?_, hfl2.1, fun i j hi hj => ?_⟩
    · show w'.ownsRow 0 t sz (if d = d then loc' 0 else loc d) _ _
      rw [if_pos rfl]; exact q
    · exact (hfl2.2 i j hi hj).flat (V.flat_cell (V.flatL_getD (hfl es hq) i) j))
  refine ⟨.own d, _, x, _, hK es hq hdes, rfl, k1, ?_⟩
  have hv : ∃ a n c, (env w' O ((d, .lst t sz es) :: s.heap) (fun k => if k = d then loc' 0 else loc k)).loc d = .slice a n c := by
    rcases blk_own (k1.objs d _ (look_eq d _ _)) with ⟨g, c, e, _⟩ | ⟨e, _⟩ <;> exact ⟨_, _, _, e⟩
  have := Rel.own (E := env w' O ((d, .lst t sz es) :: s.heap) (fun k => if k = d then loc' 0 else loc k)) d (.lst t sz es) (look_eq d (.lst t sz es) s.heap) rfl hv
  rw [hxe]
  simpa [env] using this
section
variable {P : Program} {rest : List Oper} {A : Array Oper} {H : Heap} {slots : List V} {K1 : St → Prop} {D : Tmp} {t : TypeId} {pos : String} {af : Array Edge}
theorem r_lown {f : FuncId} {args : Array Operand} {ats : Array TypeId} {x : Operand} {caps us : List V} {te : TypeId} {sz : Nat} {Q : List V → Prop} (hx : ev slots x = .fn f caps) (hs : Spec P f us [] (OwnPost te sz Q)) (hb : hasBody P f)
    (hle : SeeL H (args.toList.map (ev slots) ++ caps) us) (hfl : ∀ es, Q es → V.flatL es = true) (hf : look H D = none)
    (h : ∀ es, Q es → V.dataL es = true → evalR P A rest ⟨(slots).set D (.own D), (D, .lst te sz es) :: H⟩ K1) : evalR P A (⟨some D, .call { callee := .value x, args := args, argTypes := ats }, t, pos, af, none⟩ :: rest) ⟨slots, H⟩ K1 := by
  refine r_call ?_
  rw [hx]
  exact CallS.lendOwn (s := ⟨slots, H⟩) D hs hb hle hfl hf h
end
theorem flat_ints (l : List Int) : ∀ es, es = l.map V.i → V.flatL es = true := by
  rintro es rfl
  rw [V.flatL_iff]
  intro v hv
  obtain ⟨x, _, rfl⟩ := List.mem_map.1 hv
  rfl
end Go.AM
