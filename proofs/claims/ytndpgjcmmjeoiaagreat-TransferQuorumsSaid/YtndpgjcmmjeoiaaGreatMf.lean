/- Arguments of any shape: what a type's reading says in abstract values; from a law's contract to its row. Own work; imports the kit's laws only. -/
import Derived.Test.YtndpgjcmmjeoiaaGreatMe
import Derived.ProofKit
import Derived.SizedLaws
set_option linter.unusedVariables false
set_option linter.unusedSimpArgs false
set_option maxRecDepth 8000
set_option maxHeartbeats 1000000
namespace Go.AM
open Go.ChangeShapes Go.WideShapes Go.ChangeAt Go.RowKit Go.WideElems
abbrev E0 (W : World) : Env := env W (fun _ => False) [] fun _ => undef
def Opens (P : Program) (t : TypeId) (n : Nat) (Q : List V → Prop) : Prop := P.cellsOf t = n ∧ ∀ (H : Type) (enc : TypeId × Value → H) (W : World) (fuel : Nat) (cs : List Value) (d : DataW H) (ps : List MemPlace),
  DataW.trod enc P W 0 (fun _ => true) true fuel t cs = some (d, ps) → (∀ x ∈ d.weights P t, x ≤ reachBytes) → (∀ x ∈ ps, x.block < W.heap.size) →
  ∃ vs : List V, vs.length = n ∧ RelL (E0 W) cs vs ∧ V.dataL vs = true ∧ Q vs
section
variable {P : Program}
theorem Opens.imp {t : TypeId} {n : Nat} {Q Q' : List V → Prop} (h : Opens P t n Q) (k : ∀ vs, Q vs → Q' vs) : Opens P t n Q' :=
  ⟨h.1, fun H enc W fuel cs d ps h1 h2 h3 => (h.2 H enc W fuel cs d ps h1 h2 h3).imp fun vs q => ⟨q.1, q.2.1, q.2.2.1, k vs q.2.2.2⟩⟩
theorem opens_int {t : TypeId} {k : IntKind} (ht : P.underlying t = some (.int k)) (hc : P.cellsOf t = 1) : Opens P t 1 (fun vs => ∃ z, (Lit.int k z).wf = true ∧ vs = [.sc (.int k z)]) := by
  refine ⟨hc, fun H enc W fuel cs d ps h _ _ => ?_⟩
  obtain ⟨z, rfl, _, hw⟩ := DataW.trod_int ht h
  exact ⟨_, rfl, .cons (.sc _) (.nil _), rfl, z, hw, rfl⟩
def OpensFs (P : Program) (n : Nat) : List (TypeId × Nat) → Nat → List (List V → Prop) → Prop
  | [], off, [] => off = n
  | f :: fs, off, Q :: Qs => f.2 = off ∧ ∃ m, Opens P f.1 m Q ∧ OpensFs P n fs (off + m) Qs
  | _, _, _ => False
def fldsOf (P : Program) (t : TypeId) : List (TypeId × Nat) := match P.underlying t with
  | some (.struct fs) => fs.toList.map fun f => (f.type, f.offset)
  | _ => []
theorem flds_struct {t : TypeId} {L : List (TypeId × Nat)} (h : fldsOf P t = L) (hL : L ≠ []) : ∃ fs, P.underlying t = some (.struct fs) ∧ (fs.toList.map fun f => (f.type, f.offset)) = L := by
  unfold fldsOf at h
  split at h
  · rename_i fs hu; exact ⟨fs, hu, h⟩
  · exact absurd h.symm hL
theorem skolem {α : Type} [Inhabited α] {n : Nat} {R : Nat → α → Prop} (h : ∀ i, i < n → ∃ x, R i x) : ∃ g : Nat → α, ∀ i, i < n → R i (g i) := by
  classical
  exact ⟨fun i => if hi : i < n then (h i hi).choose else default, fun i hi => by show R i (if hi : i < n then (h i hi).choose else default); rw [dif_pos hi]; exact (h i hi).choose_spec⟩
theorem opens_slice (ag : Bool) {t e : TypeId} {m : Nat} {Q : List V → Prop} (ht : P.underlying t = some (.slice e)) (hc : P.cellsOf t = 1) (he : Opens P e m Q) (hm : 0 < m) (hb : Nat.ble 1 (P.bytesOf e) = true)
    (hq : ag = false → ∀ c, Q c → (c.getD 0 .any).cells = c) :
    Opens P t 1 (fun vs => ∃ ess : List (List V), (∀ c ∈ ess, Q c) ∧ ess.length ≤ reachBytes ∧ vs = [.sl false (ess.map (valOf ag))]) := by
  refine ⟨hc, fun H enc W fuel cs d ps hd hw hp => ?_⟩
  rcases DataW.trod_slice ht hd with ⟨rfl, e0⟩ | ⟨a, len, cap, elems, rest, n, _, rfl, e0, _, hlc, hcm, hlen, hel, _, _⟩
  · exact ⟨_, rfl, .cons (.nil false none 0 (fun e => by cases e) (by decide)) (.nil _), rfl, [], by simp, by simp, rfl⟩
  simp only [Prod.mk.injEq] at e0
  obtain ⟨rfl, rfl⟩ := e0
  have hbig : len ≤ reachBytes := by
    have := hw ((elems.length + rest.length) * P.bytesOf e) (by simp [DataW.weights, ht])
    have h1 : len * 1 ≤ (elems.length + rest.length) * P.bytesOf e := Nat.mul_le_mul (by omega) (Nat.le_of_ble_eq_true hb)
    omega
  rcases Nat.eq_zero_or_pos len with h00 | hpos
  · subst h00
    exact ⟨_, rfl, .cons (.nil false _ cap (fun e => by cases e) hcm) (.nil _), rfl, [], by simp, by simp, rfl⟩
  have each : ∀ i, i < len → ∃ q : List V × List Value, (q.1.length = m ∧ q.2.length = m) ∧ RelL (E0 W) q.2 q.1 ∧ V.dataL q.1 = true ∧ Q q.1 ∧ ∀ j, j < m → W.cell? ((a.add (i * m)).add j) = q.2[j]? := by
    intro i hi
    have h1 := hel i hi
    have h2 : i < elems.length := by omega
    rw [List.getElem?_eq_getElem h2, Option.bind_eq_some_iff] at h1
    obtain ⟨cs, hcs, hy⟩ := h1
    obtain ⟨_, hcl, hcell⟩ := World.cells?_some hcs
    rw [he.1] at hcl hcell
    have hmem : (elems[i]).1 ∈ elems.map (·.1) := List.mem_map.2 ⟨_, List.getElem_mem h2, rfl⟩
    have hw2 : ∀ x ∈ (elems[i]).1.weights P e, x ≤ reachBytes := by
      intro x hx
      refine hw x ?_
      simp only [DataW.weights, ht, List.mem_cons, List.mem_append]
      refine .inr (.inl ?_)
      revert hmem
      generalize elems.map (·.1) = l
      intro hmem
      induction l with
      | nil => simp at hmem
      | cons b l ih =>
        rw [DataW.weightsAll, List.mem_append]
        rcases List.mem_cons.1 hmem with e1 | e1
        · rw [← e1]; exact .inl hx
        · exact .inr (ih e1)
    have hp2 : ∀ x ∈ (elems[i]).2, x.block < W.heap.size := fun x hx => hp x (List.mem_append.2 (.inr (List.mem_flatMap.2 ⟨elems[i], List.mem_append.2 (.inl (List.getElem_mem h2)), hx⟩)))
    obtain ⟨vs, g1, g2, g3, g4⟩ := he.2 H enc W n cs (elems[i]).1 (elems[i]).2 hy hw2 hp2
    exact ⟨(vs, cs), ⟨g1, hcl⟩, g2, g3, g4, fun j hj => hcell j hj⟩
  obtain ⟨g, hg⟩ := skolem each
  obtain ⟨b, off, spot⟩ := a
  have hspot : spot = none := by
    have h0 := (hg 0 hpos).2.2.2.2 0 hm
    rw [List.getElem?_eq_getElem (by rw [(hg 0 hpos).1.2]; exact hm)] at h0
    simpa [Addr.add] using World.cell?_spot h0
  subst hspot
  have hblk : b < W.heap.size := hp (.cell b off) (by
    rw [List.mem_append]
    refine .inl (MemPlace.mem_row.2 ⟨0, ?_, by simp⟩)
    rw [he.1]
    exact Nat.mul_pos (by omega) hm)
  have hes : ∀ i, i < len → ((((List.range len).map fun i => (g i).1).map (valOf ag)).getD i .any).cells = (g i).1 := by
    intro i hi
    rw [List.map_map, List.getD_eq_getElem?_getD, List.getElem?_map, List.getElem?_range hi]
    show (valOf ag (g i).1).cells = _
    unfold valOf
    cases ag with
    | true => rfl
    | false => exact hq rfl _ (hg i hi).2.2.2.1
  refine ⟨_, rfl, .cons ?_ (.nil _), ?_, (List.range len).map fun i => (g i).1, ?_, by simpa using hbig, rfl⟩
  · have key := AM.Rel.sl (E := E0 W) false (((List.range len).map fun i => (g i).1).map (valOf ag)) b off cap m (fun k => (W.cell? ⟨b, off + k, none⟩).getD undef) ?_ (by simpa using hlc) hcm (fun e => by cases e)
      ⟨hblk, fun h => h, fun id h => by simp [AM.look] at h⟩ hm ?_ ?_ ?_
    · simpa using key
    · rw [V.dataL_iff]
      intro v hv
      simp only [List.map_map, List.mem_map, List.mem_range] at hv
      obtain ⟨i, hi, rfl⟩ := hv
      show (valOf ag (g i).1).data = true
      unfold valOf
      cases ag with
      | true => exact (hg i hi).2.2.1
      | false => exact V.dataL_getD (hg i hi).2.2.1 0
    · intro i hi
      rw [hes i (by simpa using hi)]
      exact (hg i (by simpa using hi)).1.1
    · intro k hk
      simp only [List.length_map, List.length_range] at hk
      have hi : k / m < len := by rw [Nat.div_lt_iff_lt_mul hm]; exact hk
      have h0 := (hg (k / m) hi).2.2.2.2 (k % m) (Nat.mod_lt _ hm)
      rw [add_plain, add_plain, Nat.add_assoc, Nat.mul_comm, Nat.div_add_mod, List.getElem?_eq_getElem (by rw [(hg (k / m) hi).1.2]; exact Nat.mod_lt _ hm)] at h0
      show W.cell? ⟨b, off + k, none⟩ = some ((W.cell? ⟨b, off + k, none⟩).getD undef)
      rw [h0]; rfl
    · intro i j hi hj
      simp only [List.length_map, List.length_range] at hi
      rw [hes i hi]
      have h0 := (hg i hi).2.2.2.2 j hj
      rw [add_plain, add_plain, Nat.add_assoc] at h0
      rw [h0]
      have := (hg i hi).2.1.getD j
      rw [List.getD_eq_getElem?_getD] at this
      exact this
  · simp only [V.dataL, V.data, Bool.and_true]
    rw [V.dataL_iff]
    intro v hv
    simp only [List.map_map, List.mem_map, List.mem_range] at hv
    obtain ⟨i, hi, rfl⟩ := hv
    show (valOf ag (g i).1).data = true
    unfold valOf
    cases ag with
    | true => exact (hg i hi).2.2.1
    | false => exact V.dataL_getD (hg i hi).2.2.1 0
  · intro c hc
    obtain ⟨i, hi, rfl⟩ := List.mem_map.1 hc
    exact (hg i (by simpa using hi)).2.2.2.1
theorem lists_of {α : Type} {f : α → V} {ok : α → Prop} {ag : Bool} : ∀ {ess : List (List V)}, (∀ c ∈ ess, ∃ x, ok x ∧ valOf ag c = f x) → ∃ xs : List α, ess.map (valOf ag) = xs.map f ∧ (∀ x ∈ xs, ok x) ∧ xs.length = ess.length
  | [], _ => ⟨[], rfl, by simp, rfl⟩
  | c :: ess, h => by
    obtain ⟨x, hx, e⟩ := h c (by simp)
    obtain ⟨xs, e1, h1, h2⟩ := lists_of (ess := ess) fun c' hc => h c' (by simp [hc])
    refine ⟨x :: xs, by simp [e, e1], fun y hy => ?_, by simp [h2]⟩
    rcases List.mem_cons.1 hy with rfl | hy
    · exact hx
    · exact h1 y hy
def OpensV (P : Program) (t : TypeId) (Q : V → Prop) : Prop := ∀ (H : Type) (enc : TypeId × Value → H) (W : World) (base : Nat) (v : Value) (d : DataW H) (ps : List MemPlace), Value.okWide P W .any base t v →
  DataW.Trod enc P W 0 (fun _ => true) true t v d ps → (∀ x ∈ d.weights P t, x ≤ reachBytes) → (∀ x ∈ ps, x.block < W.heap.size) → ∃ u : V, Rel (E0 W) v u ∧ Q u
theorem Opens.agg {t : TypeId} {L : List (TypeId × Nat)} {n : Nat} {Q : List V → Prop} {Q' : V → Prop} (hf : fldsOf P t = L) (hL : L ≠ []) (h : Opens P t n Q) (k : ∀ vs, Q vs → Q' (.agg vs)) : OpensV P t Q' := by
  obtain ⟨fs, ht, _⟩ := flds_struct hf hL
  intro H enc W base v d ps hv ⟨fuel, hd⟩ hw hp
  unfold Value.okWide at hv
  simp only [ht] at hv
  obtain ⟨cs, rfl, _⟩ := hv
  obtain ⟨vs, h1, h2, h3, h4⟩ := h.2 H enc W fuel _ d ps hd hw hp
  exact ⟨.agg vs, Rel.agg_iff.2 ⟨cs, rfl, h2⟩, k vs h4⟩
theorem Opens.one {t : TypeId} {Q : List V → Prop} {Q' : V → Prop} (h : Opens P t 1 Q) (hv : ∀ (W : World) (base : Nat) (v : Value), Value.okWide P W .any base t v → v.cells.toList = [v]) (k : ∀ u, Q [u] → Q' u) : OpensV P t Q' := by
  intro H enc W base v d ps ho ⟨fuel, hd⟩ hw hp
  rw [hv W base v ho] at hd
  obtain ⟨vs, h1, h2, h3, h4⟩ := h.2 H enc W fuel _ d ps hd hw hp
  match vs, h1 with
  | [u], _ => exact ⟨u, by simpa using h2.getD 0, k u h4⟩
theorem Opens.sl {t e : TypeId} {Q : List V → Prop} {Q' : V → Prop} (ht : P.underlying t = some (.slice e)) (h : Opens P t 1 Q) (k : ∀ u, Q [u] → Q' u) : OpensV P t Q' :=
  h.one (fun W base v ho => by obtain ⟨a, l, c, rfl⟩ := okWide_slice ht ho; rfl) k
theorem opensV_int {t : TypeId} {k : IntKind} (ht : P.underlying t = some (.int k)) (hc : P.cellsOf t = 1) : OpensV P t (fun u => ∃ z, (Lit.int k z).wf = true ∧ u = .sc (.int k z)) :=
  (opens_int ht hc).one (fun W base v ho => by obtain ⟨n, rfl⟩ := okWide_int ht ho; rfl) (fun u ⟨z, hz, e⟩ => ⟨z, hz, by simpa using e⟩)
def ArgsQ (P : Program) : List TypeId → List (V → Prop) → Prop
  | [], [] => True
  | t :: ts, Q :: Qs => (OpensV P t Q ∧ P.readableRec t = true ∧ t < P.types.size) ∧ ArgsQ P ts Qs
  | _, _ => False
def AllQ : List (V → Prop) → List V → Prop
  | [], [] => True
  | Q :: Qs, u :: us => Q u ∧ AllQ Qs us
  | _, _ => False
theorem args_nil : ArgsQ P [] [] := trivial
theorem args_cons {t : TypeId} {Q : V → Prop} {ts : List TypeId} {Qs : List (V → Prop)} (h : OpensV P t Q) (hr : P.readableRec t = true) (hs : decide (t < P.types.size) = true) (k : ArgsQ P ts Qs) : ArgsQ P (t :: ts) (Q :: Qs) := ⟨⟨h, hr, of_decide_eq_true hs⟩, k⟩
theorem all_nil {us : List V} (h : AllQ [] us) : us = [] := by cases us <;> simp_all [AllQ]
theorem all_cons {Q : V → Prop} {Qs : List (V → Prop)} {us : List V} (h : AllQ (Q :: Qs) us) : ∃ u us', us = u :: us' ∧ Q u ∧ AllQ Qs us' := by
  cases us with
  | nil => simp [AllQ] at h
  | cons u us => exact ⟨u, us, rfl, h.1, h.2⟩
theorem args_open {H : Type} {enc : TypeId × Value → H} (hlaid : laidOutB P = true) {W : World} {base : Nat} : ∀ {ts : List TypeId} {Qs : List (V → Prop)} {vs : List Value} {ds : List (DataW H)} {ps : List MemPlace}, ArgsQ P ts Qs → DataW.TrodAll enc P W 0 (fun _ => true) true ts vs ds ps →
    (∀ (j : Nat) (t : TypeId) (v : Value), ts[j]? = some t → vs[j]? = some v → Value.okWide P W .any base t v) → (∀ x ∈ DataW.weightsEach P ts ds, x ≤ reachBytes) → (∀ x ∈ ps, x.block < W.heap.size) →
    (∃ us, RelL (E0 W) vs us ∧ AllQ Qs us) ∧ ds.length = ts.length ∧ ∀ W' : World, (∀ x ∈ ps, W.sameAt W' x) → ∃ ps', DataW.TrodAll enc P W' 0 (fun b => decide (b < W.heap.size)) true ts vs ds ps'
  | [], [], vs, ds, ps, _, h, _, _, _ => by
    obtain ⟨rfl, rfl, rfl⟩ := trodAll_nil h
    exact ⟨⟨[], .nil _, trivial⟩, rfl, fun W' _ => ⟨[], trodAll_mk0⟩⟩
  | t :: ts, Q :: Qs, vs, ds, ps, hq, h, hv, hw, hp => by
    obtain ⟨v, vs', d, ds', p, q, rfl, rfl, rfl, hd, hrest⟩ := trodAll_cons h
    obtain ⟨⟨ho, hr, hs⟩, hq'⟩ := hq
    have hpp : ∀ x ∈ p, x.block < W.heap.size := fun x hx => hp x (by simp [hx])
    obtain ⟨u, hu, hQ⟩ := ho H enc W base v d p (hv 0 t v rfl rfl) hd (fun x hx => hw x (by simp [DataW.weightsEach, hx])) hpp
    obtain ⟨⟨us, h1, h2⟩, h3, h4⟩ := args_open hlaid hq' hrest (fun j t' v' a b => hv (j + 1) t' v' (by simpa using a) (by simpa using b)) (fun x hx => hw x (by simp [DataW.weightsEach, hx])) (fun x hx => hp x (by simp [hx]))
    refine ⟨⟨u :: us, .cons hu h1, hQ, h2⟩, by simp [h3], fun W' hs' => ?_⟩
    obtain ⟨ps', h5⟩ := h4 W' fun x hx => hs' x (by simp [hx])
    have t1 := Trod_stays hlaid hr hs hd (fun x hx => hs' x (by simp [hx])) (sp' := fun b => decide (b < W.heap.size)) (fun x hx => by simpa using hpp x hx)
    exact ⟨p ++ ps', p, ps', t1, h5, rfl⟩
  | [], _ :: _, _, _, _, h, _, _, _, _ => by simp [ArgsQ] at h
  | _ :: _, [], _, _, _, h, _, _, _, _ => by simp [ArgsQ] at h
theorem row_any {H : Type} {enc : TypeId × Value → H} (hlaid : laidOutB P = true) {tb : TypeId} (htb : P.underlying tb = some .bool) {f : FuncId} {F : Func} {s : ChangeSpec} {ts : List TypeId} {Qs : List (V → Prop)} (hts : F.params.toList = ts) (hq : ArgsQ P ts Qs) (hr : F.resultTypes = #[tb]) (hv : s.vars = [])
    (hs : ∀ ds : List (DataW H), ds.length = ts.length → (s.fn H ds).results = [.lit (.bool true)] ∧ (s.fn H ds).args = ds ∧ (s.fn H ds).vars = [])
    (law : ∀ us : List V, AllQ Qs us → AM.Fn P f us (.b true))
    {fresh handsOn : Bool} (W : World) (base : Nat) (args : Array Value) (ds gs : List (DataW H)) (before : List MemPlace)
    (hval : ∀ (j : Nat) t v, F.params[j]? = some t → args[j]? = some v → Value.okWide P W .any base t v)
    (hW : DataW.Whole enc P F.params.toList s.vars false W args.toList ds gs before)
    (hsz : (DataW.weightsEach P (F.params.toList ++ s.plain.varTypes P) (ds ++ gs)).all (· ≤ reachBytes) = true) :
    Calls P f args W fun e W' => ∃ v, e = .returned v ∧ s.post enc P F false fresh handsOn false W args v W' := by
  subst hts
  have hW' := hW
  obtain ⟨p, q, hA, hV, rfl, hfz, hnd⟩ := hW
  rw [hv] at hV
  obtain ⟨rfl, rfl⟩ := trodVars_none hV
  have hlt : ∀ x ∈ p, x.block < W.heap.size := fun x hx => by simpa using hW'.lt x (by simpa using hx)
  obtain ⟨⟨us, hrel, hQ⟩, hdl, hst⟩ := args_open (base := base) hlaid hq hA (fun j t v a b => hval j t v (by rw [← Array.getElem?_toList]; exact a) (by rw [← Array.getElem?_toList]; exact b)) (fun x hx => by
    obtain ⟨i, hi⟩ := List.getElem?_of_mem hx
    have key : ∀ (ts us : List TypeId) (ds gs : List (DataW H)), x ∈ DataW.weightsEach P ts ds → x ∈ DataW.weightsEach P (ts ++ us) (ds ++ gs) := by
      intro ts us ds gs
      induction ts generalizing ds with
      | nil => intro h; cases ds <;> simp [DataW.weightsEach] at h
      | cons t ts ih =>
        intro h
        cases ds with
        | nil => simp [DataW.weightsEach] at h
        | cons d ds =>
          simp only [List.cons_append, DataW.weightsEach, List.mem_append] at h ⊢
          rcases h with h | h
          · exact .inl h
          · exact .inr (ih ds h)
    have := List.all_eq_true.1 hsz x (key _ _ _ _ hx)
    simpa using this) hlt
  have S : SimAt W (fun _ => False) (Owned [] fun _ => undef) [] (fun _ => undef) us args.toList W :=
    ⟨hrel, fun id o h => by simp [AM.look] at h, fun id id' b h => by simp [AM.look] at h, fun id b h => by simp [AM.look] at h, Ext.refl W _, fun b h => h.elim⟩
  have hc := law us hQ W (fun _ => False) _ (fun _ => undef) S
  rw [show args.toList.toArray = args from Array.toArray_toList] at hc
  refine hc.mono ?_
  rintro e W' ⟨r, H', x, loc', ⟨rfl, rfl⟩, rfl, S'⟩
  have hx : x = .bool true := by
    have := S'.vals.2 0 (by simp)
    simp only [List.getD_cons_zero] at this
    cases this; rfl
  subst hx
  have hbel : Below W.heap.size W W' := ⟨S'.ext.os, S'.ext.tape, S'.ext.output, S'.ext.size, fun k hk => S'.ext.block k hk fun ⟨id, h, _⟩ => by simp [AM.look] at h⟩
  obtain ⟨e1, e2, e3⟩ := hs ds hdl
  obtain ⟨ps', hst'⟩ := hst W' fun x hx => hbel.same (hlt x hx)
  refine ⟨_, rfl, _, _, _, [], ps', [], hW', ?_, ?_, ?_, hbel.frame _, fun h => by cases h⟩
  · rw [List.append_nil, e1, hr]
    exact trodAll_mk1 (shut_bool htb true)
  · rw [List.append_nil, e2]; exact hst'
  · rw [hv, List.append_nil, e3]; rfl
end
end Go.AM
