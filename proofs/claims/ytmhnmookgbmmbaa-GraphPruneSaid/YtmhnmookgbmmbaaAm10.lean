/- The abstract machine, part 10: slice literals, append, copy, make: sound; the theorem 'op_sound'. -/
import Derived.Test.YtmhnmookgbmmbaaAm9
set_option linter.unusedVariables false
set_option linter.unusedSimpArgs false
namespace Go.AM

theorem length_flatten_of {α : Type} {sz : Nat} : ∀ {L : List (List α)}, (∀ l ∈ L, l.length = sz) → L.flatten.length = L.length * sz
  | [], _ => by simp
  | l :: L, h => by
    rw [List.flatten_cons, List.length_append, length_flatten_of (fun x hx => h x (List.mem_cons_of_mem _ hx)), h l (by simp), List.length_cons, Nat.add_mul]; omega
theorem getD_flatten {α : Type} {sz : Nat} (d : α) : ∀ {L : List (List α)}, (∀ l ∈ L, l.length = sz) → ∀ i j, i < L.length → j < sz → L.flatten.getD (i * sz + j) d = (L.getD i []).getD j d
  | [], _, i, j, hi, _ => by simp at hi
  | l :: L, h, i, j, hi, hj => by
    have hl := h l (by simp)
    rw [List.flatten_cons]
    cases i with
    | zero => rw [getD_append_left (by omega)]; simp
    | succ i =>
      rw [getD_append_right (by rw [hl, Nat.add_mul]; omega), hl, show (i + 1) * sz + j - sz = i * sz + j by rw [Nat.add_mul]; omega]
      rw [getD_flatten d (fun x hx => h x (List.mem_cons_of_mem _ hx)) i j (by simpa using hi) hj]
      simp

theorem fill_range {sz : Nat} : ∀ (xs : List Value) (k : Nat) (arr : Array Value), (∀ x ∈ xs, x.cells.size = sz) → (k + xs.length) * sz ≤ arr.size →
    ∃ res : Array Value, Instr.fill (fun i => some (i * sz, sz)) arr ((xs.zipIdx k).map fun p => (p.2, p.1)) = some res ∧
      res.toList = arr.toList.take (k * sz) ++ (xs.map (·.cells.toList)).flatten ++ arr.toList.drop ((k + xs.length) * sz)
  | [], k, arr, _, _ => ⟨arr, rfl, by simp⟩
  | x :: xs, k, arr, h, hl => by
    have hx := h x (by simp)
    have hk : k * sz + sz ≤ arr.size := by
      have : (k + 1) * sz ≤ (k + (xs.length + 1)) * sz := Nat.mul_le_mul_right _ (by omega)
      rw [Nat.add_mul] at this
      simp only [List.length_cons] at hl
      omega
    have hput := put_cells (k * sz) x.cells.toList 0 arr (by rw [Array.length_toList]; omega)
    rw [List.zipIdx_cons, List.map_cons]
    simp only [Instr.fill]
    rw [if_neg (by simp [hx]; omega)]
    have e : (Array.foldl (fun cs (x : Value × Nat) => cs.setIfInBounds (k * sz + x.2) x.1) arr x.cells.zipIdx).toList = arr.toList.take (k * sz) ++ x.cells.toList ++ arr.toList.drop (k * sz + sz) := by
      rw [← Array.foldl_toList, Array.toList_zipIdx]
      simpa [hx] using hput
    have esz : (Array.foldl (fun cs (x : Value × Nat) => cs.setIfInBounds (k * sz + x.2) x.1) arr x.cells.zipIdx).size = arr.size := by
      rw [← Array.length_toList, e, List.length_append, List.length_append, List.length_take, List.length_drop, Array.length_toList, Array.length_toList]; omega
    obtain ⟨res, h1, h2⟩ := fill_range (sz := sz) xs (k + 1) _ (fun y hy => h y (List.mem_cons_of_mem _ hy)) (by rw [esz]; simp only [List.length_cons] at hl; rw [show k + 1 + xs.length = k + (xs.length + 1) by omega]; exact hl)
    refine ⟨res, h1, ?_⟩
    rw [h2, e]
    have hlen : (arr.toList.take (k * sz) ++ x.cells.toList).length = (k + 1) * sz := by
      rw [List.length_append, List.length_take, Array.length_toList, Array.length_toList, Nat.add_mul]; omega
    rw [List.take_append_of_le_length (by omega), List.take_of_length_le (by omega), List.map_cons, List.flatten_cons]
    have hd : (arr.toList.take (k * sz) ++ x.cells.toList ++ arr.toList.drop (k * sz + sz)).drop ((k + 1 + xs.length) * sz) = arr.toList.drop ((k + (x :: xs).length) * sz) := by
      rw [List.drop_append, List.drop_eq_nil_of_le (by rw [hlen]; exact Nat.mul_le_mul_right _ (by omega)), List.nil_append, hlen, List.drop_drop, List.length_cons]
      congr 1
      have : (k + 1 + xs.length) * sz = (k + 1) * sz + xs.length * sz := Nat.add_mul ..
      have h2 : (k + (xs.length + 1)) * sz = (k + 1 + xs.length) * sz := by congr 1; omega
      rw [h2, this, Nat.add_mul k 1 sz]
      omega
    rw [hd]
    simp [List.append_assoc]

theorem zok_run {P : Program} {te : TypeId} {sz : Nat} (h : zok P te sz) : ∃ i zx, P.info? te = some i ∧ i.zero = some zx ∧ zx.cells.size = sz := by
  unfold zok at h
  split at h
  · rename_i z hz
    unfold zv at hz
    split at hz
    · rename_i i hi
      cases hzz : i.zero with
      | none => simp [hzz] at hz
      | some x =>
        simp only [hzz, Option.map_some, Option.some.injEq] at hz
        subst hz
        refine ⟨i, x, hi, hzz, ?_⟩
        cases x <;> simpa [ofZero, V.cells, Value.cells] using h
    · cases hz
  · exact h.elim

section
variable {P : Program} {w0 : World} {O M : Nat → Prop} {s : St} {loc : Nat → Value} {a : Act} {w : World} {o : Oper}

/-- A block that the call does not own, new. -/
theorem new_free (S : SimAt w0 O M s.heap loc s.slots a.tmps.toList w) (ob : Go.Obj) : (env (w.alloc ob) O s.heap loc).F w.heap.size := by
  refine ⟨by simp, fun h => by have := S.O_lt _ h; have := S.ext.size; omega, fun id hid he => by have := S.lt hid he; omega⟩

/-- A new row of data, in a block of its own. -/
theorem rel_new_row (S : SimAt w0 O M s.heap loc s.slots a.tmps.toList w) {te : TypeId} {cells : Array Value} {sz : Nat} {es : List V} {full : Bool} {c : Nat} (hz : 0 < sz) (hc : es.length ≤ c) (hm : c ≤ maxLen)
    (hf : full = true → c = es.length) (hd : V.dataL es = true) (hst : Stride sz es) (hsz : es.length * sz ≤ cells.size)
    (hr : ∀ i j, i < es.length → j < sz → Rel (env w O s.heap loc) (cells.getD (i * sz + j) undef) ((es.getD i .any).cells.getD j .any)) :
    Rel (env (w.alloc (.cells cells te)) O s.heap loc) (.slice (some ⟨w.heap.size, 0, none⟩) es.length c) (.sl full es) := by
  have hg := Grows.alloc w (.cells cells te)
  by_cases h0 : es = []
  · subst h0; exact .nil _ _ _ (fun h => by simpa using hf h) hm
  · refine .sl full es w.heap.size 0 c sz (fun k => cells.getD k undef) hd hc hm hf (new_free S _) hz (fun i hi => hst _ ?_) (fun k hk => ?_) (fun i j hi hj => S.rel_grows hg (hr i j hi hj))
    · rw [List.getD_eq_getElem?_getD, List.getElem?_eq_getElem hi]; exact List.getElem_mem hi
    · show (w.alloc _).cell? _ = _
      rw [cell_of_row _ w.heap.size _ cells te (0, 0) (heap_alloc_new w _)]
      have : k < cells.size := by omega
      simp [Array.getD_eq_getD_getElem?, this]

theorem op_buildSlice {K : V → St → Prop} {t : TypeId} {n : Nat} {parts : Array (Nat × Operand)} (ho : o.op = .buildSlice t n parts) (h : opK P o s K) (S : SimAt w0 O M s.heap loc s.slots a.tmps.toList w) : Steps1 P w0 O M a w o K := by
  simp only [opK, ho] at h
  split at h
  · rename_i te sz by_ ht
    obtain ⟨hz, hsmall, hzv, hidx, hdat, hsto, hstr, hK⟩ := h
    obtain ⟨hu, ie, hie, hisz, _⟩ := slv_run ht
    obtain ⟨i2, zx, hi2, hzx, _⟩ := zok_run hzv
    rw [hie] at hi2; cases hi2
    subst hisz
    have hlen : parts.toList.length = n := by have := congrArg List.length hidx; simpa using this
    -- the parts, as the machine hands them
    have hrel : ∀ p ∈ parts.toList, Rel (env w O s.heap loc) (a.eval p.2) (ev s.slots p.2) := fun p _ => ev_rel S.vals p.2
    have hcl : ∀ x ∈ parts.toList.map (fun p => a.eval p.2), x.cells.size = ie.size := by
      intro x hx
      obtain ⟨p, hp, rfl⟩ := List.mem_map.1 hx
      have h1 := ((hrel p hp).cells (hsto _ (List.mem_map.2 ⟨p, hp, rfl⟩))).1
      have h2 := hstr _ (List.mem_map.2 ⟨p, hp, rfl⟩)
      rw [Array.length_toList] at h1; omega
    have hparts : (parts.map fun (i, x) => (i, a.eval x)).toList = ((parts.toList.map fun p => a.eval p.2).zipIdx 0).map fun p => (p.2, p.1) := by
      apply List.ext_getElem
      · simp
      · intro j h1 h2
        have hj : j < parts.toList.length := by simpa using h1
        have e : (parts.toList[j]).1 = j := by
          have h3 : (parts.toList.map (·.1))[j]'(by simpa using hj) = (List.range n)[j]'(by simp; omega) := by simp only [hidx]
          simpa using h3
        have e' : (parts[j]'(by simpa using hj)).1 = j := by simpa using e
        simp [e']
    have hes : (parts.toList.map fun p => ev s.slots p.2).length = n := by simpa using hlen
    by_cases h0 : n = 0
    · have hp0 : parts.toList = [] := List.eq_nil_of_length_eq_zero (by omega)
      have hp1 : parts = #[] := by cases parts; simp_all
      subst hp1
      subst h0
      have := rel_new_row (full := true) (c := 0) (te := te) (cells := #[]) (sz := ie.size) (es := []) S hz (by simp) (by simp [maxLen]) (by simp) rfl (by intro v hv; simp at hv) (by simp) (by simp)
      have hK := hK.resolve_right (fun h => by omega)
      refine ⟨_, _, _, s, loc, ?_, .inl ⟨_, rfl, this⟩, by simpa using hK, S.grows (Grows.alloc w _)⟩
      unfold execOp
      simp only [ho]
      refine run_lift ?_
      simp [Instr.buildSlice, run_underlying hu, sizeOf, typeInfo, hie, Instr.fill, newRow, Array.range_zero']
    · obtain ⟨res, hf1, hf2⟩ := fill_range (sz := ie.size) (parts.toList.map fun p => a.eval p.2) 0 ((Array.range (n * ie.size)).map (zx.cells[· % zx.cells.size]!)) hcl (by simp [hlen])
      rw [← hparts] at hf1
      have hpos : ¬ n * ie.size = 0 := by
        have := Nat.mul_pos (show 0 < n by omega) hz; omega
      have hsm : ¬ n * ie.size > 2 ^ 24 := by omega
      have hrun := run_buildSlice (P := P) w t te n _ res ie zx hu hie hzx hsm hpos hf1
      have hL : ∀ l ∈ (parts.toList.map fun p => a.eval p.2).map (·.cells.toList), l.length = ie.size := by
        intro l hl
        obtain ⟨x, hx, rfl⟩ := List.mem_map.1 hl
        rw [Array.length_toList]; exact hcl x hx
      have hres : res.toList = ((parts.toList.map fun p => a.eval p.2).map (·.cells.toList)).flatten := by
        rw [hf2]
        simp [hlen]
      have hrs : res.size = n * ie.size := by
        rw [← Array.length_toList, hres, length_flatten_of hL]; simp [hlen]
      have hcellr : ∀ i j, i < (parts.toList.map fun p => ev s.slots p.2).length → j < ie.size → Rel (env w O s.heap loc) (res.getD (i * ie.size + j) undef) (((parts.toList.map fun p => ev s.slots p.2).getD i .any).cells.getD j .any) := by
        intro i j hi hj
        have hi' : i < parts.toList.length := by simpa using hi
        have e1 : res.getD (i * ie.size + j) undef = (a.eval parts.toList[i].2).cells.toList.getD j undef := by
          have : res.getD (i * ie.size + j) undef = res.toList.getD (i * ie.size + j) undef := by simp [Array.getD_eq_getD_getElem?, List.getD_eq_getElem?_getD]
          rw [this, hres, getD_flatten undef hL i j (by simpa using hi') hj, List.map_map, getD_map_lt hi']
          rfl
        have e2 : (parts.toList.map fun p => ev s.slots p.2).getD i .any = ev s.slots parts.toList[i].2 := getD_map_lt hi' _
        rw [e1, e2]
        have hc := (hrel _ (List.getElem_mem hi')).cells (hsto _ (List.mem_map.2 ⟨_, List.getElem_mem hi', rfl⟩))
        exact hc.getD j
      have hr := rel_new_row (full := true) (te := te) (cells := res) (c := n) S hz (by omega) (by simp only [maxLen]; have := Nat.le_mul_of_pos_right n hz; omega) (fun _ => hes.symm) hdat hstr (by rw [hes, hrs]; exact Nat.le_refl _) hcellr
      rw [hes] at hr
      rcases hK with hK | ⟨_, hK⟩
      · refine ⟨_, _, _, s, loc, ?_, .inl ⟨_, rfl, hr⟩, hK, S.grows (Grows.alloc w _)⟩
        unfold execOp
        simp only [ho]
        exact run_lift hrun
      · obtain ⟨d, hd, hf, hK⟩ := free_elim hK
        have hnm : n ≤ maxLen := by simp only [maxLen]; have := Nat.le_mul_of_pos_right n hz; omega
        obtain ⟨k1, k2⟩ := S.new d hf (Grows.alloc w (.cells res te)) (.slice (some ⟨w.heap.size, 0, none⟩) n n) (.lst te ie.size (parts.toList.map fun p => ev s.slots p.2)) (by intro b hb; simp [blk] at hb; omega) (fun hrel => by
          refine ⟨⟨hz, hdat⟩, res.toList, ⟨by rw [Array.length_toList, hes, hrs], .inr ⟨w.heap.size, n, res, ?_, Nat.zero_le _, heap_alloc_new w _, by rw [hes]; exact Nat.le_refl _, hnm, hrs, ?_⟩⟩, fun i hi => ?_, fun i j hi hj => ?_⟩
          · show (if d = d then _ else loc d) = _
            rw [if_pos rfl, hes]
          · rw [hes, List.take_of_length_le (by rw [Array.length_toList, hrs]; exact Nat.le_refl _)]
          · refine hstr _ ?_
            rw [List.getD_eq_getElem?_getD, List.getElem?_eq_getElem hi]; exact List.getElem_mem hi
          · have := hrel _ _ (hcellr i j hi hj)
            simpa [Array.getD_eq_getD_getElem?, List.getD_eq_getElem?_getD] using this)
        refine ⟨_, _, .own d, _, _, ?_, .inl ⟨.slice (some ⟨w.heap.size, 0, none⟩) n n, rfl, ?_⟩, hK, k1⟩
        · unfold execOp
          simp only [ho]
          exact run_lift hrun
        · have := Rel.own (E := env (w.alloc (.cells res te)) O ((d, .lst te ie.size (parts.toList.map fun p => ev s.slots p.2)) :: s.heap) (fun k => if k = d then .slice (some ⟨w.heap.size, 0, none⟩) n n else loc k)) d _ (look_eq d _ _) rfl ⟨some ⟨w.heap.size, 0, none⟩, n, n, if_pos rfl⟩
          simpa [env] using this
  · exact h.elim

/-- A source of elements. -/
def SrcOK (E : Env) (xv : Value) (sz : Nat) (ns : List V) : Prop :=
  ∃ (a : Option Addr) (c : Nat) (news : List Value), xv = .slice a ns.length c ∧ news.length = ns.length * sz ∧ Flat E (fun k => news.getD k undef) sz ns ∧ V.dataL ns = true ∧ (ns ≠ [] → ∃ ad, a = some ad ∧ ∀ j u, news[j]? = some u → E.w.cell? (ad.add j) = some u)

theorem src_sound {t : TypeId} {sz : Nat} {x : V} {xv : Value} {K : List V → Prop} {E : Env} {H : Heap} (hE : E.obj = look H) (h : srcK P t sz H x K) (hr : Rel E xv x) (hobj : ∀ id ob, look H id = some ob → ObjOK E id ob) :
    ∃ ns e, K ns ∧ SrcOK E xv sz ns ∧ P.underlying t = some (.slice e) := by
  have ty : (slv P t).isSome = true → ∃ e, P.underlying t = some (.slice e) := fun hs => by
    obtain ⟨⟨te, sz, by_⟩, ht⟩ := Option.isSome_iff_exists.1 hs
    exact ⟨_, (slv_run ht).1⟩
  unfold srcK at h
  split at h
  · rename_i full ns
    obtain ⟨hs, hst, hK⟩ := h
    obtain ⟨e, he⟩ := ty hs
    refine ⟨ns, e, hK, ?_, he⟩
    have hlen : ∀ i, i < ns.length → (ns.getD i .any).cells.length = sz := fun i hi => hst _ (by
      rw [List.getD_eq_getElem?_getD, List.getElem?_eq_getElem hi]; exact List.getElem_mem hi)
    generalize hv : V.sl full ns = v at hr
    cases hr with
    | nil f a c h1 h2 =>
      cases hv
      exact ⟨a, c, [], rfl, by simp, ⟨by simp, by simp⟩, rfl, by simp⟩
    | sl f es g off c sz' fv a1 a2 a3 a4 a5 a6 a7 a8 a9 =>
      cases hv
      by_cases h0 : ns = []
      · subst h0; exact ⟨_, c, [], rfl, by simp, ⟨by simp, by simp⟩, rfl, by simp⟩
      · have hpos : 0 < ns.length := List.length_pos_iff.2 h0
        have esz : sz' = sz := by rw [← a7 0 hpos, hlen 0 hpos]
        subst esz
        refine ⟨_, c, (List.range (ns.length * sz')).map fv, rfl, by simp, ⟨hlen, fun i j hi hj => ?_⟩, a1, fun _ => ⟨_, rfl, fun j u hu => ?_⟩⟩
        · have hb : i * sz' + j < ns.length * sz' := by
            have : (i + 1) * sz' ≤ ns.length * sz' := Nat.mul_le_mul_right _ hi
            rw [Nat.add_mul] at this; omega
          have : ((List.range (ns.length * sz')).map fv).getD (i * sz' + j) undef = fv (i * sz' + j) := by simp [List.getD_eq_getElem?_getD, hb]
          simp only [this]; exact a9 i j hi hj
        · rw [List.getElem?_map] at hu
          by_cases hb : j < ns.length * sz'
          · rw [List.getElem?_range hb] at hu
            simp only [Option.map_some, Option.some.injEq] at hu
            subst hu
            rw [addr_add]; exact a8 j hb
          · rw [List.getElem?_eq_none (by simp; omega)] at hu; cases hu
    | _ => cases hv
  · rename_i id
    split at h
    · rename_i te sz' ns hl
      obtain ⟨hs, rfl, hK⟩ := h
      obtain ⟨e, he⟩ := ty hs
      refine ⟨ns, e, hK, ?_, he⟩
      obtain ⟨ex, _⟩ := hr.own_inv
      obtain ⟨⟨hz, hd⟩, xs, ho, hf⟩ := hobj id _ hl
      rcases ho.2 with ⟨e', h0⟩ | ⟨g, cap, cur, e', h1, hg, h2, h3, h4, h5⟩
      · have : ns = [] := List.eq_nil_of_length_eq_zero h0
        subst this
        rw [ex, e']
        exact ⟨_, _, [], rfl, by simp, ⟨by simp, by simp⟩, rfl, by simp⟩
      · rw [ex, e']
        refine ⟨_, _, xs, rfl, ho.1, hf, hd, fun _ => ⟨_, rfl, fun j u hu => ?_⟩⟩
        exact ho.cells (by rw [e']; rfl) j u hu
    · exact h.elim
  · obtain ⟨hs, hK⟩ := h
    obtain ⟨e, he⟩ := ty hs
    refine ⟨[], e, hK, ?_, he⟩
    rw [Rel.sc_iff.1 hr]
    exact ⟨none, 0, [], rfl, by simp, ⟨by simp, by simp⟩, rfl, by simp⟩
  · exact h.elim

/-- The elements' cells may be stored. -/
theorem src_one {E : Env} {news : List Value} {sz : Nat} {ns : List V} (hl : news.length = ns.length * sz) (hz : 0 < sz) (hf : Flat E (fun k => news.getD k undef) sz ns) (hs : Storable ns) : ∀ u ∈ news, u.oneCell' = true := by
  intro u hu
  obtain ⟨k, hk, rfl⟩ := List.mem_iff_getElem.1 hu
  have hi : k / sz < ns.length := by rw [Nat.div_lt_iff_lt_mul hz]; omega
  have hj : k % sz < sz := Nat.mod_lt _ hz
  have hr := hf.2 (k / sz) (k % sz) hi hj
  have e : k / sz * sz + k % sz = k := by rw [Nat.mul_comm]; exact Nat.div_add_mod k sz
  have hmem : ns.getD (k / sz) .any ∈ ns := by rw [List.getD_eq_getElem?_getD, List.getElem?_eq_getElem hi]; exact List.getElem_mem hi
  have hok : (ns.getD (k / sz) .any).cells.all V.one = true := hs _ hmem
  have hlen := hf.1 _ hi
  have h1 : V.one ((ns.getD (k / sz) .any).cells.getD (k % sz) .any) = true := by
    have hb : k % sz < (ns.getD (k / sz) .any).cells.length := by omega
    rw [List.getD_eq_getElem?_getD (l := (ns.getD (k / sz) .any).cells), List.getElem?_eq_getElem hb]
    exact List.all_eq_true.1 hok _ (List.getElem_mem hb)
  simp only [e] at hr
  rw [List.getD_eq_getElem?_getD, List.getElem?_eq_getElem hk] at hr
  have := okCells_all (cs := [(ns.getD (k / sz) .any).cells.getD (k % sz) .any]) (by simpa using h1) (RelL.cons hr (.nil _))
  exact this _ (by simp)

theorem append_types {t t' ty e : TypeId} {b : Option Addr} {n c : Nat} {y : Value} (hu : P.underlying t = some (.slice e)) {i : TypeInfo} (hi : P.info? e = some i) {e' : TypeId} (hu' : P.underlying t' = some (.slice e')) (w : World) :
    (Builtin.append_ #[t, t'] ty #[.slice b n c, y]).run P w = (Builtin.append_ #[t, t] ty #[.slice b n c, y]).run P w := by
  simp [Builtin.append_, Sem.run_bind, run_underlying hu, run_underlying hu', sizeOf, typeInfo, hi]

/-- A fresh row that the call owns. -/
theorem fresh_owns (w : World) {te : TypeId} {z : Value} {sz k cap : Nat} {ys : Array Value} (hy : ys.size = k * sz) (hz : z.cells.size = sz) (hk : k ≤ cap) (hc : cap ≤ maxLen) :
    (w.drew.alloc (.cells (ys ++ Builtin.zeroCells z.cells (cap - k)) te)).ownsRow 0 te sz (.slice (some ⟨w.heap.size, 0, none⟩) k cap) k ys.toList := by
  refine ⟨by rw [Array.length_toList]; exact hy, .inr ⟨w.heap.size, cap, _, rfl, Nat.zero_le _, heap_alloc_new w.drew _, hk, hc, ?_, ?_⟩⟩
  · rw [Array.size_append, hy, size_zeroCells, hz, ← Nat.add_mul]; congr 1; omega
  · rw [Array.toList_append, ← hy, ← Array.length_toList, List.take_left]

theorem Flat.append {E E' : Env} {xs ys : List Value} {sz : Nat} {es ns : List V} (h : Flat E (fun k => xs.getD k undef) sz es) (hx : xs.length = es.length * sz) (k : Flat E' (fun k => ys.getD k undef) sz ns)
    (m : ∀ i j, i < es.length → j < sz → Rel E (xs.getD (i * sz + j) undef) ((es.getD i .any).cells.getD j .any) → Rel E' (xs.getD (i * sz + j) undef) ((es.getD i .any).cells.getD j .any)) :
    Flat E' (fun k => (xs ++ ys).getD k undef) sz (es ++ ns) := by
  refine ⟨fun i hi => ?_, fun i j hi hj => ?_⟩
  · by_cases hc : i < es.length
    · rw [getD_append_left hc]; exact h.1 i hc
    · rw [getD_append_right (by omega)]; exact k.1 _ (by simp at hi; omega)
  · by_cases hc : i < es.length
    · have hb : i * sz + j < xs.length := by
        rw [hx]
        have : (i + 1) * sz ≤ es.length * sz := Nat.mul_le_mul_right _ hc
        rw [Nat.add_mul] at this; omega
      simp only [getD_append_left hc, getD_append_left hb]
      exact m i j hc hj (h.2 i j hc hj)
    · have hc' : es.length ≤ i := by omega
      have hb : xs.length ≤ i * sz + j := by
        rw [hx]
        have : es.length * sz ≤ i * sz := Nat.mul_le_mul_right _ hc'
        omega
      have e : i * sz + j - xs.length = (i - es.length) * sz + j := by
        rw [hx, Nat.sub_mul]
        have : es.length * sz ≤ i * sz := Nat.mul_le_mul_right _ hc'
        omega
      simp only [getD_append_right hc', getD_append_right hb, e]
      exact k.2 _ j (by simp at hi; omega) hj
end
end Go.AM
