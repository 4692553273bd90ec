/- The abstract machine: the comparison of two structs or arrays of plain cells goes cell by cell. -/
import Derived.Test.YtmhnmookgbmmbaaSv
set_option linter.unusedVariables false
set_option linter.unusedSimpArgs false
namespace Go.AM

def leafB : TypeDesc → V → Bool
  | .int _, .sc (.int _ _) => true
  | .bool, .sc (.bool _) => true
  | .string, .sc (.string _) => true
  | _, _ => false
def fieldsB (P : Program) (eq : TypeId → List V → Bool) : List Field → Nat → List V → Bool
  | [], off, zs => zs.length == off
  | f :: fs, off, zs => (f.name != "_") && (f.offset == off) && match tyv P f.type with
    | some (_, n) => decide (0 < n) && decide (off + n ≤ zs.length) && eq f.type ((zs.drop off).take n) && fieldsB P eq fs (off + n) zs
    | none => false
/-- The cells of a type, all plain, one after the other. -/
def eqB (P : Program) : Nat → TypeId → List V → Bool
  | 0, _, _ => false
  | d + 1, t, zs => match P.underlying t with
    | some (.struct fs) => !P.stoodInHeld t && fieldsB P (eqB P d) fs.toList 0 zs
    | some (.array n e) => match tyv P e with
      | some (_, m) => decide (0 < m) && (zs.length == n * m) && (List.range n).all fun k => eqB P d e ((zs.drop (k * m)).take m)
      | none => false
    | some td => match zs with
      | [z] => leafB td z
      | _ => false
    | none => false
/-- A value out of its cells. -/
def valOf (ag : Bool) (cs : List V) : V := if ag then .agg cs else cs.getD 0 .any
theorem plain_cons {c d : V} {cs ds : List V} : plainCells (c :: cs) (d :: ds) = (plainCells [c] [d] && plainCells cs ds) := by
  cases c <;> cases d <;> first
    | (rename_i x y; cases x <;> cases y <;> first | (simp [plainCells]; done) | rfl)
    | (simp [plainCells]; done)
    | rfl
theorem plain_len : ∀ {cs ds : List V}, plainCells cs ds = true → cs.length = ds.length
  | [], [], _ => rfl
  | [], d :: ds, h => by simp [plainCells] at h
  | c :: cs, [], h => by simp [plainCells] at h
  | c :: cs, d :: ds, h => by
    rw [plain_cons] at h
    simp only [Bool.and_eq_true] at h
    rw [List.length_cons, List.length_cons, plain_len h.2]
theorem plain_append : ∀ {as cs bs ds : List V}, as.length = cs.length → plainCells (as ++ bs) (cs ++ ds) = (plainCells as cs && plainCells bs ds)
  | [], [], bs, ds, _ => by simp [plainCells]
  | a :: as, c :: cs, bs, ds, h => by
    rw [List.cons_append, List.cons_append, plain_cons, plain_append (by simpa using h), plain_cons (cs := as), Bool.and_assoc]
theorem eqCells_cons {c d : V} {cs ds : List V} : eqCells (c :: cs) (d :: ds) = (eqCells [c] [d] && eqCells cs ds) := by
  cases c <;> cases d <;> first
    | (rename_i x y; cases x <;> cases y <;> first | (simp [eqCells]; done) | rfl)
    | (simp [eqCells]; done)
    | rfl
theorem eqCells_append : ∀ {as cs bs ds : List V}, as.length = cs.length → eqCells (as ++ bs) (cs ++ ds) = (eqCells as cs && eqCells bs ds)
  | [], [], bs, ds, _ => by simp [eqCells]
  | a :: as, c :: cs, bs, ds, h => by
    rw [List.cons_append, List.cons_append, eqCells_cons, eqCells_append (by simpa using h), eqCells_cons (cs := as), Bool.and_assoc]
theorem split_mid (l : List V) (off n : Nat) (h : off + n ≤ l.length) : l.drop off = (l.drop off).take n ++ l.drop (off + n) := by
  conv => lhs; rw [← List.take_append_drop n (l.drop off)]
  rw [List.drop_drop]
theorem plain_drop {cs ds : List V} (h : plainCells cs ds = true) (k : Nat) : plainCells (cs.drop k) (ds.drop k) = true := by
  by_cases hk : k ≤ cs.length
  · have hl := plain_len h
    have e1 := List.take_append_drop k cs
    have e2 := List.take_append_drop k ds
    rw [← e1, ← e2, plain_append (by rw [List.length_take, List.length_take, hl])] at h
    simp only [Bool.and_eq_true] at h
    exact h.2
  · have hl := plain_len h
    rw [List.drop_eq_nil_of_le (by omega), List.drop_eq_nil_of_le (by omega)]; rfl
theorem plain_take {cs ds : List V} (h : plainCells cs ds = true) (k : Nat) : plainCells (cs.take k) (ds.take k) = true := by
  have hl := plain_len h
  have e1 := List.take_append_drop k cs
  have e2 := List.take_append_drop k ds
  rw [← e1, ← e2, plain_append (by rw [List.length_take, List.length_take, hl])] at h
  simp only [Bool.and_eq_true] at h
  exact h.1

section
variable {P : Program} {E : Env} {w : World}
theorem part_at {ty : TypeId} {ag : Bool} {n : Nat} (ht : tyv P ty = some (ag, n)) {arr : Array Value} {cs : List V} {off : Nat} (hr : RelL E arr.toList cs) (hn : off + n ≤ cs.length) (h0 : 0 < n) (w : World) :
    ∃ y, (part ty arr off).run P w = .ok y w ∧ Rel E y (valOf ag ((cs.drop off).take n)) := by
  obtain ⟨y, h1, h2⟩ := part_sound ht hr hn h0 w
  refine ⟨y, h1, ?_⟩
  unfold V.sub at h2
  unfold valOf
  cases ag with
  | true => exact h2
  | false =>
    simp only [Bool.false_eq_true, if_false, V.cells] at h2 ⊢
    have : ((cs.drop off).take n).getD 0 .any = cs.getD off .any := by
      rw [List.getD_eq_getElem?_getD, List.getD_eq_getElem?_getD, List.getElem?_take, if_pos h0, List.getElem?_drop, Nat.add_zero]
    rw [this]; exact h2

theorem eqB_sound : ∀ (d : Nat) (t : TypeId) (zs : List V), eqB P d t zs = true → ∀ (ag : Bool) (n : Nat), tyv P t = some (ag, n) → ∀ (cs ds : List V), plainCells zs cs = true → plainCells cs ds = true → ∀ (x y : Value) (w : World) (m : Nat), d ≤ m → Rel E x (valOf ag cs) → Rel E y (valOf ag ds) →
    (Op.equalIn m t x y).run P w = .ok (eqCells cs ds) w
  | 0, _, _, h => by simp [eqB] at h
  | d + 1, t, zs, h => by
    intro ag n ht cs ds hz hc x y w m hm hx hy
    have hlz := plain_len hz
    have hlc := plain_len hc
    obtain ⟨m, rfl⟩ : ∃ m', m = m' + 1 := ⟨m - 1, by omega⟩
    have hm' : d ≤ m := by omega
    unfold eqB at h
    have hag : ∀ td, P.underlying t = some td → ag = aggD td := by
      intro td hu
      unfold tyv at ht
      rw [hu] at ht
      cases hi : P.info? t with
      | none => simp [hi] at ht
      | some i => simp only [hi, Option.some.injEq, Prod.mk.injEq] at ht; exact ht.1.symm
    split at h
    · rename_i fs hu
      have ea := hag _ hu
      subst ea
      simp only [aggD, valOf, if_true] at hx hy
      obtain ⟨xs, rfl, hxr⟩ := Rel.agg_iff.1 hx
      obtain ⟨ys, rfl, hyr⟩ := Rel.agg_iff.1 hy
      simp only [Bool.and_eq_true, Bool.not_eq_true'] at h
      have hf : P.fieldsOf t = fs := by simp [Program.fieldsOf, hu]
      rw [run_equalIn_struct w m t xs ys (by rw [hf]; exact hu) h.1, hf]
      have key : ∀ (l : List Field) (off : Nat), off ≤ zs.length → fieldsB P (eqB P d) l off zs = true → (Op.eqFields m xs ys l).run P w = .ok (eqCells (cs.drop off) (ds.drop off)) w := by
        intro l
        induction l with
        | nil =>
          intro off ho h
          simp only [fieldsB, beq_iff_eq] at h
          rw [List.drop_eq_nil_of_le (by omega), List.drop_eq_nil_of_le (by omega)]
          simp [Op.eqFields, eqCells]
        | cons f l ih =>
          intro off ho h
          simp only [fieldsB, Bool.and_eq_true] at h
          obtain ⟨⟨hn, hoff⟩, h⟩ := h
          have hoff' : f.offset = off := by simpa using hoff
          have hn' : f.name ≠ "_" := by simpa using hn
          cases htf : tyv P f.type with
          | none => rw [htf] at h; cases h
          | some q =>
            obtain ⟨ag', k⟩ := q
            rw [htf] at h
            simp only [Bool.and_eq_true, decide_eq_true_eq] at h
            obtain ⟨⟨⟨h0, hl⟩, he⟩, hrest⟩ := h
            obtain ⟨a, pa, ra⟩ := part_at htf hxr (off := off) (by omega) h0 w
            obtain ⟨b, pb, rb⟩ := part_at htf hyr (off := off) (by omega) h0 w
            have hsub := eqB_sound d f.type _ he ag' k htf ((cs.drop off).take k) ((ds.drop off).take k) (plain_take (plain_drop hz off) k) (plain_take (plain_drop hc off) k) a b w m hm' ra rb
            simp only [Op.eqFields]
            rw [if_pos hn', hoff', Sem.run_bind, pa]
            simp only [Result.andThen_ok]
            rw [Sem.run_bind, pb]
            simp only [Result.andThen_ok]
            rw [Sem.run_bind, hsub]
            simp only [Result.andThen_ok]
            have e : eqCells (cs.drop off) (ds.drop off) = (eqCells ((cs.drop off).take k) ((ds.drop off).take k) && eqCells (cs.drop (off + k)) (ds.drop (off + k))) := by
              rw [← eqCells_append (by simp; omega), ← split_mid cs off k (by omega), ← split_mid ds off k (by omega)]
            have hih := ih (off + k) (by omega) hrest
            rw [e]
            generalize eqCells ((cs.drop off).take k) ((ds.drop off).take k) = q
            cases q
            · simp
            · simpa using hih
      have := key fs.toList 0 (by omega) h.2
      simpa using this
    · rename_i len e hu
      have ea := hag _ hu
      subst ea
      simp only [aggD, valOf, if_true] at hx hy
      obtain ⟨xs, rfl, hxr⟩ := Rel.agg_iff.1 hx
      obtain ⟨ys, rfl, hyr⟩ := Rel.agg_iff.1 hy
      cases hte : tyv P e with
      | none => rw [hte] at h; cases h
      | some q =>
        obtain ⟨ag', k⟩ := q
        rw [hte] at h
        simp only [Bool.and_eq_true, decide_eq_true_eq, beq_iff_eq] at h
        obtain ⟨⟨h0, hlen⟩, hall⟩ := h
        obtain ⟨i, hi, hik⟩ : ∃ i, P.info? e = some i ∧ i.size = k := by
          unfold tyv at hte
          split at hte
          · rename_i d' i h1 h2; simp only [Option.some.injEq, Prod.mk.injEq] at hte; exact ⟨i, h2, hte.2⟩
          · cases hte
        have hck : P.cellsOf e = k := by simp [Program.cellsOf, hi, hik]
        rw [run_equalIn_array w m xs ys hu hi, hck]
        have key : ∀ (r j : Nat), j + r = len → (Op.eqItems m e k xs ys (List.range' j r)).run P w = .ok (eqCells (cs.drop (j * k)) (ds.drop (j * k))) w := by
          intro r
          induction r with
          | zero =>
            intro j hj
            have : j = len := by omega
            subst this
            rw [List.drop_eq_nil_of_le (by omega), List.drop_eq_nil_of_le (by omega)]
            simp [Op.eqItems, eqCells]
          | succ r ih =>
            intro j hj
            have hb : j * k + k ≤ zs.length := by
              rw [hlen]
              have : (j + 1) * k ≤ len * k := Nat.mul_le_mul_right _ (by omega)
              rw [Nat.add_mul] at this; omega
            have he := List.all_eq_true.1 hall j (List.mem_range.2 (by omega))
            obtain ⟨a, pa, ra⟩ := part_at hte hxr (off := j * k) (by omega) h0 w
            obtain ⟨b, pb, rb⟩ := part_at hte hyr (off := j * k) (by omega) h0 w
            have hsub := eqB_sound d e _ he ag' k hte ((cs.drop (j * k)).take k) ((ds.drop (j * k)).take k) (plain_take (plain_drop hz _) k) (plain_take (plain_drop hc _) k) a b w m hm' ra rb
            rw [List.range'_succ]
            simp only [Op.eqItems]
            rw [Sem.run_bind, pa]
            simp only [Result.andThen_ok]
            rw [Sem.run_bind, pb]
            simp only [Result.andThen_ok]
            rw [Sem.run_bind, hsub]
            simp only [Result.andThen_ok]
            have e : eqCells (cs.drop (j * k)) (ds.drop (j * k)) = (eqCells ((cs.drop (j * k)).take k) ((ds.drop (j * k)).take k) && eqCells (cs.drop (j * k + k)) (ds.drop (j * k + k))) := by
              rw [← eqCells_append (by simp; omega), ← split_mid cs (j * k) k (by omega), ← split_mid ds (j * k) k (by omega)]
            have hih := ih (j + 1) (by omega)
            rw [Nat.add_mul, Nat.one_mul] at hih
            rw [e]
            generalize eqCells ((cs.drop (j * k)).take k) ((ds.drop (j * k)).take k) = q
            cases q
            · simp
            · simpa using hih
        have := key len 0 (by omega)
        rw [List.range_eq_range']
        simpa using this
    · rename_i td hns hna hu
      split at h
      · rename_i z
        have ea := hag _ hu
        obtain ⟨c, rfl⟩ : ∃ c, cs = [c] := List.length_eq_one_iff.1 (by simpa using hlz.symm)
        obtain ⟨d', rfl⟩ : ∃ d', ds = [d'] := List.length_eq_one_iff.1 (by simpa using hlc.symm)
        have eag : ag = false := by
          rw [ea]
          unfold leafB at h
          split at h <;> first | rfl | cases h
        subst eag
        simp only [valOf, Bool.false_eq_true, if_false, List.getD_cons_zero] at hx hy
        unfold leafB at h
        split at h
        · obtain ⟨a, b, k, rfl, rfl⟩ : ∃ a b k, c = .sc (.int k a) ∧ d' = .sc (.int k b) := by
            cases c <;> (try (simp [plainCells] at hz; done))
            rename_i xc
            cases xc <;> (try (simp [plainCells] at hz; done))
            cases d' <;> (try (simp [plainCells] at hc; done))
            rename_i xd
            cases xd <;> (try (simp [plainCells] at hc; done))
            rename_i k a k' b
            have : k = k' := by simpa [plainCells] using hc
            exact ⟨a, b, k, rfl, by rw [this]⟩
          rw [Rel.sc_iff.1 hx, Rel.sc_iff.1 hy, run_equalIn_int w m t _ _ _ _ hu]
          by_cases e : a = b <;> simp [eqCells, e]
        · obtain ⟨a, b, rfl, rfl⟩ : ∃ a b, c = .sc (.bool a) ∧ d' = .sc (.bool b) := by
            cases c <;> (try (simp [plainCells] at hz; done))
            rename_i xc
            cases xc <;> (try (simp [plainCells] at hz; done))
            cases d' <;> (try (simp [plainCells] at hc; done))
            rename_i xd
            cases xd <;> (try (simp [plainCells] at hc; done))
            exact ⟨_, _, rfl, rfl⟩
          rw [Rel.sc_iff.1 hx, Rel.sc_iff.1 hy, run_equalIn_bool' w m t _ _ hu]
          simp [eqCells]
        · obtain ⟨a, b, rfl, rfl⟩ : ∃ a b, c = .sc (.string a) ∧ d' = .sc (.string b) := by
            cases c <;> (try (simp [plainCells] at hz; done))
            rename_i xc
            cases xc <;> (try (simp [plainCells] at hz; done))
            cases d' <;> (try (simp [plainCells] at hc; done))
            rename_i xd
            cases xd <;> (try (simp [plainCells] at hc; done))
            exact ⟨_, _, rfl, rfl⟩
          rw [Rel.sc_iff.1 hx, Rel.sc_iff.1 hy, run_equalIn_string w m t _ _ hu]
          rw [← beq_toListBytes, beq_bytes]
          simp [eqCells]
        · cases h
      · cases h
    · cases h
end
theorem eqlT_of {P : Program} {t : TypeId} {zs : List V} {n : Nat} (h : eqB P 8 t zs = true) (ht : tyv P t = some (true, n)) (hg : P.eqGuardType P.depth t = false) : eqlT P t zs :=
  ⟨fun cs ds xs ys E w hz hc hx hy => eqB_sound 8 t zs h true n ht cs ds hz hc _ _ w 10000 (by decide) (Rel.agg_iff.2 ⟨xs, rfl, hx⟩) (Rel.agg_iff.2 ⟨ys, rfl, hy⟩), hg⟩
end Go.AM
