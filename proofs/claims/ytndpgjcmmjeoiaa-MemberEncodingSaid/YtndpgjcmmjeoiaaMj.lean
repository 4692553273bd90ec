/- A call that is lent objects and returns a list of the caller's own. Own work; imports the kit's laws only. -/
import Derived.Test.YtndpgjcmmjeoiaaMe
set_option linter.unusedVariables false
set_option linter.unusedSimpArgs false
set_option maxRecDepth 8000
set_option maxHeartbeats 1000000
namespace Go.AM
open V (Le LeL)
section
variable {P : Program} {rest : List Oper} {A : Array Oper} {H : Heap} {slots : List V} {K1 : St → Prop} {D : Tmp} {t : TypeId} {pos : String} {af : Array Edge}
end
theorem v_conv_str {P : Program} {e : Operand → V} {H : Heap} {K : V → Prop} {t T te : TypeId} {x : Operand} {f : Bool} {ns : List Int} (hx : e x = .sl f (ns.map fun n => V.sc (.int .u8 n))) (hs : P.underlying t = some (.slice te)) (he : P.underlying te = some (.int .u8)) (hd : P.underlying T = some .string)
    (h : K (.sc (.string (bytesS ns)))) : valK P (.convert t T x) e H K := by
  simp only [valK, convK, hx]
  exact ⟨te, ns, hs, he, hd, rfl, h⟩
section
variable {P : Program} {w0 : World} {O M : Nat → Prop}
theorem evalR_soundA {ops : Array Oper} {l2 : List Oper} : ∀ {l : List Oper} {s : St} {K : St → Prop} {loc : Nat → Value} {a : Act} {w : World} {Q : Exit → Act → World → Prop}, evalR P ops l s K → a.defers = [] → SimAt w0 O M s.heap loc s.slots a.tmps.toList w →
    (∀ s' loc' a' w', K s' → a'.defers = [] → SimAt w0 O M s'.heap loc' s'.slots a'.tmps.toList w' → wpList P ops Q l2 a' w') → wpList P ops Q (l ++ l2) a w
  | [], s, K, loc, a, w, Q, h, hd, S, hQ => hQ s loc a w h hd S
  | o :: rest, s, K, loc, a, w, Q, h, hd, S, hQ => by
    have go : ∀ {s : St} {loc : Nat → Value}, SimAt w0 O M s.heap loc s.slots a.tmps.toList w → stepR P o s (fun v s' => evalR P ops rest (s'.put o.dst v) K) → o.wp P a w (wpList P ops Q (rest ++ l2)) Q := by
      intro s loc S h
      refine step_sound h hd S fun v s' loc' x w' hK S' hr => ?_
      obtain ⟨S'', hd'⟩ := put_sim S' hr o.dst
      exact evalR_soundA hK (hd'.trans hd) S'' hQ
    unfold evalR at h
    rw [List.cons_append]
    unfold wpList
    split at h
    · rename_i hg
      rw [if_pos (by simp [Region.wanted, hg])]
      exact .inl (go S h)
    · rename_i j want hg
      split at h
      · rename_i d hdst
        split at h
        · rename_i b hb
          have hx : a.tmps[d]? = some (.bool b) := by
            have := S.vals.getD d
            rw [hb] at this
            have e := Rel.sc_iff.1 this
            rw [List.getD_eq_getElem?_getD, Array.getElem?_toList] at e
            cases hq : a.tmps[d]? with
            | none => rw [hq] at e; simp [undef] at e
            | some y => rw [hq] at e; simp at e; rw [e]
          have hy : yielded ops a.tmps j = some b := by simp [yielded, hdst, hx]
          have hset : SimAt w0 O M s.heap loc (s.slots.set d (.sc (.bool b))) a.tmps.toList w := by
            have := S.put d (Rel.sc (.bool b))
            have e : a.tmps.toList.set d (.bool b) = a.tmps.toList := by
              apply List.ext_getElem?
              intro i
              rw [List.getElem?_set]
              by_cases hi : d = i
              · subst hi
                have : d < a.tmps.toList.length := by rw [Array.length_toList]; exact (Array.getElem?_eq_some_iff.1 hx).1
                rw [if_pos rfl, if_pos this, Array.getElem?_toList, hx]
              · rw [if_neg hi]
            rwa [e] at this
          by_cases hw : b = want
          · rw [if_pos (by simp [Region.wanted, hg, hy, hw])]
            subst hw
            exact .inl (go (s := ⟨s.slots.set d (.sc (.bool b)), s.heap⟩) hset (h.1 rfl))
          · have hw' : b = (!want) := by cases b <;> cases want <;> simp_all
            rw [if_neg (by simp [Region.wanted, hg, hy, hw])]
            have hset' : SimAt w0 O M s.heap loc (s.slots.set d (.sc (.bool (!want)))) a.tmps.toList w := by rw [← hw']; exact hset
            obtain ⟨S'', hd'⟩ := put_sim (s := ⟨s.slots.set d (.sc (.bool (!want))), s.heap⟩) hset' (Rel.sc undef) o.dst
            exact evalR_soundA (h.2 hw') (hd'.trans hd) S'' hQ
        · rename_i arr hb
          have hy : yielded ops a.tmps j = none := yielded_tuple hdst (by rw [← hb]; exact S.vals.getD d)
          rw [if_neg (by simp [Region.wanted, hg, hy])]
          obtain ⟨S'', hd'⟩ := put_sim (s := s) S (Rel.sc undef) o.dst
          exact evalR_soundA h (hd'.trans hd) S'' hQ
        · exact h.elim
      · exact h.elim
theorem Runs.regionAt (m : Nat) {f : FuncId} {post : V → Heap → Prop} {k : List Item} {s : St} {id : Nat} {l : List Oper} (h : evalR P l.toArray (l.take m) s fun s1 => ∃ s2, s1.Le s2 ∧ evalR P l.toArray (l.drop m) s2 (Runs P f post k)) : Runs P f post (.code (.region id l.toArray false) :: k) s :=
  Runs.of_wp fun w0 O M loc a w hd S => wp_region_lit (by
    have := evalR_soundA (l2 := l.drop m) (Q := fun e a' w' => e = .normal ∧ ∃ s' loc', Runs P f post k s' ∧ a'.defers = [] ∧ SimAt w0 O M s'.heap loc' s'.slots a'.tmps.toList w') h hd S (fun s1 loc1 a1 w1 h1 hd1 S1 => by
      obtain ⟨s2, hle, h2⟩ := h1
      obtain ⟨loc2, S2⟩ := hle w0 O M loc1 a1.tmps.toList w1 S1
      exact evalR_sound h2 hd1 S2 fun s' loc' a' w' hR hd' S' => ⟨rfl, s', loc', hR, hd', S'⟩)
    rw [List.take_append_drop] at this
    exact this)
end
end Go.AM
