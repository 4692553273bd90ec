/- The abstract machine, part 11: append, copy, make: sound; the theorem 'op_sound'. -/
import Derived.Test.YtmhnmookgbmmbaaAm10
import Derived.Lib.LazyBuf
set_option linter.unusedVariables false
set_option linter.unusedSimpArgs false
namespace Go.AM
section
variable {P : Program} {w0 : World} {O M : Nat → Prop} {s : St} {loc : Nat → Value} {a : Act} {w : World} {o : Oper}

theorem drew_alloc_ext (w : World) (ob : Go.Obj) (M : Nat → Prop) : Ext w M (w.drew.alloc ob) :=
  ⟨rfl, rfl, rfl, by simp, fun b hb _ => Go.heap_alloc_old w.drew ob b hb⟩

theorem app_own {t te ty : TypeId} {ie : TypeInfo} {zx : Value} {sz by_ : Nat} (hu : P.underlying t = some (.slice te)) (hie : P.info? te = some ie) (hzx : ie.zero = some zx) (hs : ie.size = sz) (hb : ie.bytes = by_)
    (hzs : zx.cells.size = sz) (hz : 0 < sz) {v0 : Value} {n : Nat} {xs : List Value} (hown : w.ownsRow 0 te sz v0 n xs) {ad : Option Addr} {m c : Nat} {news : List Value} (hl : news.length = m * sz)
    (hnews : 0 < m → ∃ b, ad = some b ∧ ∀ j u, news[j]? = some u → w.cell? (b.add j) = some u) (h1 : ∀ u ∈ news, u.oneCell' = true) (hbytes : (n + m) * by_ ≤ 140737488355328) (hlen : n + m ≤ 140737488355328) :
    ∃ v' w', (Builtin.append_ #[t, t] ty #[v0, .slice ad m c]).run P w = .ok v' w' ∧ w'.ownsRow 0 te sz v' (n + m) (xs ++ news) ∧ Ext w (fun b => blk v0 = some b) w' ∧
      (∀ b, blk v' = some b → w.heap.size ≤ b ∨ blk v0 = some b) := by
  subst hs
  subst hb
  have hgm : ∀ old, grownCap w (n + m) old te ≤ maxLen := fun old => grownCap_le_maxLen w _ _ _ (by simp only [maxLen]; omega)
  rcases Nat.eq_zero_or_pos m with hm | hm
  · subst hm
    have hn : news = [] := List.eq_nil_of_length_eq_zero (by simpa using hl)
    subst hn
    refine ⟨v0, w, ?_, by simpa using hown, Ext.refl w _, fun b hb => .inr hb⟩
    rcases hown.2 with ⟨rfl, rfl⟩ | ⟨g, cap, cur, rfl, _, hg, hcap, _⟩
    · cases ad <;> simp [Builtin.append_, run_underlying hu, sizeOf, typeInfo, hie, Builtin.lenOf, Builtin.firstCells, loadCells, loadCellsFrom]
    · cases ad <;> simp [Builtin.append_, run_underlying hu, sizeOf, typeInfo, hie, Builtin.lenOf, Builtin.firstCells, loadCells, loadCellsFrom, hcap, storeCells]
  · obtain ⟨b, rfl, hcell⟩ := hnews hm
    rcases hown.2 with ⟨rfl, rfl⟩ | ⟨g, cap, cur, rfl, h0, hg, hcap, hcm, hcs, htake⟩
    · have hx : xs = [] := List.eq_nil_of_length_eq_zero (by simpa using hown.1)
      subst hx
      have hr := run_append_nil (P := P) w t ty te ie zx hu hie hzx b m c news hl hcell hm (by omega) (by simp only [Nat.zero_add] at hbytes; omega)
      refine ⟨_, _, hr, ?_, drew_alloc_ext w _ _, fun b hb => by simp [blk] at hb; omega⟩
      have := fresh_owns w (te := te) (z := zx) (sz := ie.size) (k := m) (cap := grownCap w m 0 te) (ys := news.toArray) (by simpa using hl) hzs (grownCap_ge w m 0 te) (by simpa using hgm 0)
      simpa using this
    · have holds : ∀ j u, xs[j]? = some u → w.cell? ((⟨g, 0, none⟩ : Addr).add j) = some u := hown.cells (g := g) rfl
      by_cases hroom : n + m ≤ cap
      · have hfit : n * ie.size + news.length ≤ cur.size := by rw [hl, hcs, ← Nat.add_mul]; exact Nat.mul_le_mul_right _ hroom
        have hr := run_append_room (P := P) w t ty te ie hu hie g n cap cur hg b m c news hl hcell h1 hroom hfit
        refine ⟨_, _, hr, ⟨by rw [List.length_append, hown.1, hl, Nat.add_mul], .inr ⟨g, cap, _, rfl, Nat.zero_le _, setRow_heap w g cur _ te _ hg, hroom, hcm, ?_, ?_⟩⟩, ?_, fun b hb => .inr (by simpa [blk] using hb)⟩
        · simp only [List.size_toArray, List.length_append, List.length_take, List.length_drop, Array.length_toList]; omega
        · have e1 : (cur.toList.take (n * ie.size) ++ news).length = (n + m) * ie.size := by rw [htake, List.length_append, hown.1, hl, Nat.add_mul]
          rw [← e1, List.take_left, htake]
        · refine ⟨rfl, rfl, rfl, by simp, fun k _ hk => setRow_other w g k _ ?_⟩
          intro e; subst e; exact hk rfl
      · have hr := run_append_grow (P := P) w t ty te ie zx hu hie hzx ⟨g, 0, none⟩ n cap xs hown.1 holds b m c news hl hcell (by omega) (by omega) (growslice_fits (by omega) hbytes)
        refine ⟨_, _, hr, ?_, drew_alloc_ext w _ _, fun b hb => by simp [blk] at hb; omega⟩
        have := fresh_owns w (te := te) (z := zx) (sz := ie.size) (k := n + m) (cap := grownCap w (n + m) cap te) (ys := xs.toArray ++ news.toArray)
          (by rw [Array.size_append, List.size_toArray, List.size_toArray, hown.1, hl, Nat.add_mul]) hzs (grownCap_ge w _ _ te) (hgm cap)
        simpa using this

/-- An append to data that is full. -/
theorem app_full {t te ty : TypeId} {ie : TypeInfo} {zx : Value} {sz by_ : Nat} (hu : P.underlying t = some (.slice te)) (hie : P.info? te = some ie) (hzx : ie.zero = some zx) (hs : ie.size = sz) (hb : ie.bytes = by_)
    (hzs : zx.cells.size = sz) {n : Nat} {olds : List Value} {od : Option Addr} (hlo : olds.length = n * sz) (holds : 0 < n → ∃ b, od = some b ∧ ∀ j u, olds[j]? = some u → w.cell? (b.add j) = some u)
    {ad : Option Addr} {m c : Nat} {news : List Value} (hl : news.length = m * sz)
    (hnews : 0 < m → ∃ b, ad = some b ∧ ∀ j u, news[j]? = some u → w.cell? (b.add j) = some u) (hm : 0 < m) (hbytes : (n + m) * by_ ≤ 140737488355328) (hlen : n + m ≤ 140737488355328) :
    ∃ v' w', (Builtin.append_ #[t, t] ty #[.slice od n n, .slice ad m c]).run P w = .ok v' w' ∧ w'.ownsRow 0 te sz v' (n + m) (olds ++ news) ∧ Grows w w' ∧ (∀ b, blk v' = some b → w.heap.size ≤ b) := by
  subst hs
  subst hb
  obtain ⟨b, rfl, hcell⟩ := hnews hm
  have hgm : grownCap w (n + m) n te ≤ maxLen := grownCap_le_maxLen w _ _ _ (by simp only [maxLen]; omega)
  have fin : ∀ bb, (∀ j u, olds[j]? = some u → w.cell? ((bb : Addr).add j) = some u) → od = some bb → ∃ v' w', (Builtin.append_ #[t, t] ty #[.slice od n n, .slice (some b) m c]).run P w = .ok v' w' ∧ w'.ownsRow 0 te ie.size v' (n + m) (olds ++ news) ∧ Grows w w' ∧ (∀ b, blk v' = some b → w.heap.size ≤ b) := by
    rintro bb hbb rfl
    have hr := run_append_grow (P := P) w t ty te ie zx hu hie hzx bb n n olds hlo hbb b m c news hl hcell (by omega) (by omega) (growslice_fits (by omega) hbytes)
    refine ⟨_, _, hr, ?_, drew_alloc_ext w _ _, fun b hb => by simp [blk] at hb; omega⟩
    have := fresh_owns w (te := te) (z := zx) (sz := ie.size) (k := n + m) (cap := grownCap w (n + m) n te) (ys := olds.toArray ++ news.toArray)
      (by rw [Array.size_append, List.size_toArray, List.size_toArray, hlo, hl, Nat.add_mul]) hzs (grownCap_ge w _ _ te) hgm
    simpa using this
  rcases Nat.eq_zero_or_pos n with hn | hn
  · subst hn
    have hx : olds = [] := List.eq_nil_of_length_eq_zero (by simpa using hlo)
    subst hx
    cases od with
    | some bb => exact fin bb (by simp) rfl
    | none =>
      have hr := run_append_nil (P := P) w t ty te ie zx hu hie hzx b m c news hl hcell hm (by omega) (by simp only [Nat.zero_add] at hbytes; omega)
      refine ⟨_, _, hr, ?_, drew_alloc_ext w _ _, fun b hb => by simp [blk] at hb; omega⟩
      have := fresh_owns w (te := te) (z := zx) (sz := ie.size) (k := m) (cap := grownCap w m 0 te) (ys := news.toArray) (by simpa using hl) hzs (grownCap_ge w m 0 te) (by simpa using hgm)
      simpa using this
  · obtain ⟨bb, rfl, hbb⟩ := holds hn
    exact fin bb hbb rfl

theorem op_append {K : V → St → Prop} {args : Array Operand} {argTypes : Array TypeId} (ho : o.op = .call { callee := .builtin .append, args, argTypes }) (h : opK P o s K) (S : SimAt w0 O M s.heap loc s.slots a.tmps.toList w) : Steps1 P w0 O M a w o K := by
  simp only [opK, ho] at h
  split at h
  · rename_i x y t t' hargs htys
    have ea : args = #[x, y] := by cases args; simp_all
    have et : argTypes = #[t, t'] := by cases argTypes; simp_all
    subst ea; subst et
    split at h
    · rename_i te sz by_ ht
      obtain ⟨hz, hzok, hsrc⟩ := h
      obtain ⟨hu, ie, hie, his, hib⟩ := slv_run ht
      obtain ⟨i2, zx, hi2, hzx, hzs⟩ := zok_run hzok
      rw [hie] at hi2; cases hi2
      obtain ⟨ns, e', ⟨hsto, h⟩, ⟨ad, c, news, ey, hl, hf, hd, hcell⟩, hu'⟩ := src_sound (E := env w O s.heap loc) rfl hsrc (ev_rel S.vals y) S.objs
      have hone := src_one hl hz hf hsto
      have hnews : 0 < ns.length → ∃ b, ad = some b ∧ ∀ j u, news[j]? = some u → w.cell? (b.add j) = some u := fun hp => hcell (by rintro rfl; simp at hp)
      have hx := ev_rel S.vals x
      have exec : ∀ {bb : Option Addr} {n cc : Nat} {v' : Value} {w' : World}, a.eval x = .slice bb n cc → (Builtin.append_ #[t, t] o.type #[.slice bb n cc, .slice ad ns.length c]).run P w = .ok v' w' →
          (execOp a.eval o).run P w = .ok (.value v') w' := by
        intro bb n cc v' w' hbb hrun
        unfold execOp
        simp only [ho, resolve, invoke, builtin, Sem.run_bind, Sem.run_pure, Result.andThen_ok, List.map_toArray, List.map_cons, List.map_nil, hbb, ey, append_types hu hie hu', hrun]
      split at h
      · rename_i id hid
        rw [hid] at hx
        obtain ⟨ex, _⟩ := hx.own_inv
        split at h
        · rename_i te' sz' es hob
          obtain ⟨rfl, rfl, hb1, hb2, hK⟩ := h
          obtain ⟨⟨_, hdes⟩, xs, hown, hfx⟩ := S.objs id _ hob
          obtain ⟨v', w', h1, h2, h3, h4⟩ := app_own (ty := o.type) hu hie hzx his hib hzs hz hown hl hnews hone hb1 hb2 (c := c)
          have hsl : ∃ bb n cc, a.eval x = .slice bb n cc := by
            rw [ex]
            rcases hown.2 with ⟨e, _⟩ | ⟨g, cap, cur, e, _⟩ <;> exact ⟨_, _, _, e⟩
          obtain ⟨bb, n, cc, hbb⟩ := hsl
          have hloc : loc id = .slice bb n cc := by rw [← hbb]; exact ex.symm
          have h1' : (Builtin.append_ #[t, t] o.type #[.slice bb n cc, .slice ad ns.length c]).run P w = .ok v' w' := by
            rw [← hloc]; exact h1
          have hdat : V.dataL (es ++ ns) = true := by rw [V.dataL_append, hdes, hd]; rfl
          obtain ⟨k1, k2⟩ := S.renew id _ (.lst te' sz' (es ++ ns)) hob h3 v' h4 (fun hrel => by
            refine ⟨⟨hz, hdat⟩, xs ++ news, ?_, ?_⟩
            · show w'.ownsRow 0 te' sz' (if id = id then v' else loc id) _ _
              rw [if_pos rfl, List.length_append]; exact h2
            · have hf' : Flat (env w' O (updK id (.lst te' sz' (es ++ ns)) s.heap) (fun k => if k = id then v' else loc k)) (fun k => news.getD k undef) sz' ns :=
                ⟨hf.1, fun i j hi hj => hrel _ _ (V.data_getD_cells hd i j) (hf.2 i j hi hj)⟩
              exact Flat.append hfx hown.1 hf' (fun i j hi hj hr => hrel _ _ (V.data_getD_cells hdes i j) hr))
          refine ⟨_, w', .own id, _, _, exec hbb h1', .inl ⟨v', rfl, ?_⟩, hK, k1⟩
          have hobj' := k1.objs id _ (by rw [look_updK, if_pos rfl, hob]; rfl)
          have hv' : ∃ a n c, (env w' O (updK id (.lst te' sz' (es ++ ns)) s.heap) (fun k => if k = id then v' else loc k)).loc id = .slice a n c := by
            rcases blk_own hobj' with ⟨g, c, e, _⟩ | ⟨e, _⟩ <;> exact ⟨_, _, _, e⟩
          have := Rel.own (E := env w' O (updK id (.lst te' sz' (es ++ ns)) s.heap) (fun k => if k = id then v' else loc k)) id (.lst te' sz' (es ++ ns)) (by show look _ id = _; rw [look_updK, if_pos rfl, hob]; rfl) rfl hv'
          simpa [env] using this
        · exact h.elim
      · rename_i es hid
        rw [hid] at hx
        obtain ⟨hst, hb1, hb2, hK1, hK2⟩ := h
        obtain ⟨od, cc, ex, hc1, hc2, hc3⟩ := rel_sl_len hx
        have hcc : cc = es.length := hc3 rfl
        subst hcc
        by_cases hns : ns = []
        · subst hns
          have hn : news = [] := List.eq_nil_of_length_eq_zero (by simpa using hl)
          have hrun : (Builtin.append_ #[t, t] o.type #[.slice od es.length es.length, .slice ad 0 c]).run P w = .ok (.slice od es.length es.length) w := by
            cases od <;> cases ad <;> simp [Builtin.append_, run_underlying hu, sizeOf, typeInfo, hie, Builtin.lenOf, Builtin.firstCells, loadCells, loadCellsFrom, storeCells]
          refine ⟨_, w, _, s, loc, exec ex hrun, .inl ⟨_, rfl, by rw [← ex]; exact hx⟩, hK1 rfl, S⟩
        · obtain ⟨d, hdst, hfree, hK⟩ := free_elim (hK2 hns)
          have hpos : 0 < ns.length := List.length_pos_iff.2 hns
          -- the old elements as a source
          have hsx : srcK P t sz s.heap (.sl true es) (fun l => l = es) := ⟨by rw [ht]; rfl, hst, rfl⟩
          obtain ⟨es', e'', rfl, ⟨od', c', olds, ex', hlo, hfo, hdo, hco⟩, _⟩ := src_sound (E := env w O s.heap loc) rfl hsx hx S.objs
          have hod : od' = od := by rw [ex] at ex'; cases ex'; rfl
          subst hod
          obtain ⟨v', w', h1, h2, h3, h4⟩ := app_full (ty := o.type) hu hie hzx his hib hzs hlo (fun hp => hco (by rintro rfl; simp at hp)) hl hnews hpos hb1 hb2 (c := c)
          have hdat : V.dataL (es' ++ ns) = true := by rw [V.dataL_append, hdo, hd]; rfl
          obtain ⟨k1, k2⟩ := S.new d hfree h3 v' (.lst te sz (es' ++ ns)) h4 (fun hrel => by
            refine ⟨⟨hz, hdat⟩, olds ++ news, ?_, ?_⟩
            · show w'.ownsRow 0 te sz (if d = d then v' else loc d) _ _
              rw [if_pos rfl, List.length_append]; exact h2
            · exact Flat.append hfo hlo (hf.imp hrel) (fun i j hi hj hr => hrel _ _ hr))
          refine ⟨_, w', .own d, _, _, exec ex h1, .inl ⟨v', rfl, ?_⟩, hK, k1⟩
          have hobj' := k1.objs d _ (look_eq d _ _)
          have hv' : ∃ a n c, (env w' O ((d, .lst te sz (es' ++ ns)) :: s.heap) (fun k => if k = d then v' else loc k)).loc d = .slice a n c := by
            rcases blk_own hobj' with ⟨g, c, e, _⟩ | ⟨e, _⟩ <;> exact ⟨_, _, _, e⟩
          have := Rel.own (E := env w' O ((d, .lst te sz (es' ++ ns)) :: s.heap) (fun k => if k = d then v' else loc k)) d (.lst te sz (es' ++ ns)) (by simp [env, look]) rfl hv'
          simpa [env] using this
      · rename_i hid
        rw [hid] at hx
        have ex := Rel.sc_iff.1 hx
        obtain ⟨hb1, hb2, h⟩ := h
        obtain ⟨d, hdst, hfree, hK⟩ := free_elim h
        obtain ⟨v', w', h1, h2, h3, h4⟩ := app_own (ty := o.type) hu hie hzx his hib hzs hz (World.ownsRow_nil w 0 te sz) hl hnews hone (by simpa using hb1) (by simpa using hb2) (c := c)
        have h3' : Grows w w' := ⟨h3.os, h3.tape, h3.output, h3.size, fun b hb _ => h3.block b hb (by simp [blk])⟩
        obtain ⟨k1, k2⟩ := S.new d hfree h3' v' (.lst te sz ns) (fun b hb => (h4 b hb).resolve_right (by simp [blk])) (fun hrel => by
          refine ⟨⟨hz, hd⟩, news, ?_, hf.imp hrel⟩
          show w'.ownsRow 0 te sz (if d = d then v' else loc d) _ _
          rw [if_pos rfl]; simpa using h2)
        refine ⟨_, w', .own d, _, _, exec ex h1, .inl ⟨v', rfl, ?_⟩, hK, k1⟩
        have hobj' := k1.objs d _ (look_eq d _ _)
        have hv' : ∃ a n c, (env w' O ((d, .lst te sz ns) :: s.heap) (fun k => if k = d then v' else loc k)).loc d = .slice a n c := by
          rcases blk_own hobj' with ⟨g, c, e, _⟩ | ⟨e, _⟩ <;> exact ⟨_, _, _, e⟩
        have := Rel.own (E := env w' O ((d, .lst te sz ns) :: s.heap) (fun k => if k = d then v' else loc k)) d (.lst te sz ns) (by simp [env, look]) rfl hv'
        simpa [env] using this
      · exact h.elim
    · exact h.elim
  · exact h.elim

theorem run_storeRow (g : Nat) {te : TypeId} {cur : Array Value} (hg : w.heap[g]? = some (.cells cur te (0, 0))) {cs : List Value} (hl : cs.length ≤ cur.size) (h1 : ∀ y ∈ cs, y.oneCell' = true) :
    (storeCells ⟨g, 0, none⟩ cs).run P w = .ok () (w.setRow g (cs ++ cur.toList.drop cs.length).toArray) := by
  have := run_storeCells_at P g 0 te cs 0 cur w hg (by simpa using hl) h1
  simpa using this

theorem op_copy {K : V → St → Prop} {args : Array Operand} {argTypes : Array TypeId} (ho : o.op = .call { callee := .builtin .copy, args, argTypes }) (h : opK P o s K) (S : SimAt w0 O M s.heap loc s.slots a.tmps.toList w) : Steps1 P w0 O M a w o K := by
  simp only [opK, ho] at h
  split at h
  · rename_i x y t t' hargs htys
    have ea : args = #[x, y] := by cases args; simp_all
    have et : argTypes = #[t, t'] := by cases argTypes; simp_all
    subst ea; subst et
    split at h
    · rename_i te sz by_ ht
      obtain ⟨hu, ie, hie, his, hib⟩ := slv_run ht
      obtain ⟨ns, e', ⟨hsto, h⟩, ⟨ad, c, news, ey, hl, hf, hd, hcell⟩, hu'⟩ := src_sound (E := env w O s.heap loc) rfl h (ev_rel S.vals y) S.objs
      have hx := ev_rel S.vals x
      split at h
      · rename_i id hid
        rw [hid] at hx
        obtain ⟨ex, _⟩ := hx.own_inv
        split at h
        · rename_i te' sz' es hob
          obtain ⟨rfl, rfl, hK⟩ := h
          obtain ⟨⟨hz, hdes⟩, xs, hown, hfx⟩ := S.objs id _ hob
          have hone := src_one hl hz hf hsto
          generalize hn : min ns.length es.length = n at hK
          have hn1 : n ≤ ns.length := by omega
          have hn2 : n ≤ es.length := by omega
          have hnm1 : n * sz' ≤ ns.length * sz' := Nat.mul_le_mul_right _ hn1
          have hnm2 : n * sz' ≤ es.length * sz' := Nat.mul_le_mul_right _ hn2
          have hmin : Nat.min ns.length es.length = n := hn
          rcases hown.2 with ⟨e, h0⟩ | ⟨g, cap, cur, e, q1, hg, q2, q3, q4, q5⟩
          · -- nothing to write
            have hes : es = [] := List.eq_nil_of_length_eq_zero h0
            subst hes
            have hn0 : n = 0 := by simpa using hn2
            subst hn0
            have e' : loc id = .slice none 0 0 := e
            have hnil : Ext w (fun b => False) w := Ext.refl w _
            -- the object is as it was
            have hup : ∀ k, look (upd s.heap id (.lst te' sz' [])) k = look s.heap k := by
              intro k; rw [look_upd]; by_cases hk : k = id
              · subst hk; rw [if_pos rfl, hob]; simp
              · rw [if_neg hk]
            have henv : env w O (upd s.heap id (.lst te' sz' [])) loc = env w O s.heap loc := by
              unfold env
              simp only [hup]
              congr 1
              funext k; exact hup k
            refine ⟨_, w, .sc (.int .i64 0), _, loc, ?_, .inl ⟨.int .i64 0, rfl, .sc _⟩, by simpa using hK, ?_⟩
            · unfold execOp
              simp only [ho, resolve, invoke, builtin, Sem.run_bind, Sem.run_pure, Result.andThen_ok, List.map_toArray, List.map_cons, List.map_nil, ex, ey]
              have e'' : (env w O s.heap loc).loc id = .slice none 0 0 := e
              rw [e'']
              cases ad <;> simp [Builtin.copy_, run_underlying hu, sizeOf, typeInfo, hie, Builtin.lenOf, Builtin.firstCells, loadCells, loadCellsFrom, goInt]
            · refine ⟨by rw [henv]; exact S.vals, fun k ob hk => ?_, fun k k' b h1 h2 => ?_, fun k b h1 => ?_, S.ext, S.O_lt⟩
              · simp only at hk; rw [hup] at hk; rw [henv]; exact S.objs k ob hk
              · simp only at h1 h2; rw [hup] at h1 h2; exact S.dist k k' b h1 h2
              · simp only at h1; rw [hup] at h1; exact S.own k b h1
          · have el : loc id = .slice (some ⟨g, 0, none⟩) es.length cap := e
            have hcap : es.length * sz' ≤ cap * sz' := Nat.mul_le_mul_right _ q2
            have hxs : xs.length = es.length * sz' := hown.1
            have hcl : (news.take (n * sz')).length = n * sz' := by rw [List.length_take]; omega
            have hst := run_storeRow (P := P) (w := w) g hg (cs := news.take (n * sz')) (by rw [hcl]; omega) (fun u hu => hone u (List.mem_of_mem_take hu))
            rw [hcl] at hst
            have hdat : V.dataL (ns.take n ++ es.drop n) = true := by
              rw [V.dataL_append, Bool.and_eq_true]
              rw [V.dataL_iff] at hd hdes
              exact ⟨V.dataL_iff.2 fun v hv => hd v (List.mem_of_mem_take hv), V.dataL_iff.2 fun v hv => hdes v (List.mem_of_mem_drop hv)⟩
            have hlen : (ns.take n ++ es.drop n).length = es.length := by simp; omega
            have hal : (Obj.lst te' sz' (ns.take n ++ es.drop n)).alike (.lst te' sz' es) := ⟨rfl, rfl⟩
            obtain ⟨k1, k2⟩ := S.write id _ (.lst te' sz' (ns.take n ++ es.drop n)) hob hal (g := g) (by rw [el]; rfl) (setRow_ext w g (news.take (n * sz') ++ cur.toList.drop (n * sz')).toArray) (fun hrel => by
              refine ⟨⟨hz, hdat⟩, news.take (n * sz') ++ xs.drop (n * sz'), ⟨by rw [hlen, List.length_append, hcl, List.length_drop, hxs]; omega, .inr ⟨g, cap, _, by rw [hlen]; exact el, Nat.zero_le _, setRow_heap w g cur _ te' (0, 0) hg, by rw [hlen]; exact q2, q3, ?_, ?_⟩⟩, ?_⟩
              · rw [List.size_toArray, List.length_append, hcl, List.length_drop, Array.length_toList]; omega
              · rw [hlen, ← q5]
                simp only [List.toList_toArray]
                rw [List.take_append, hcl, List.take_of_length_le (by rw [hcl]; omega), List.drop_take]
              · have f1 : Flat (env (w.setRow g (news.take (n * sz') ++ cur.toList.drop (n * sz')).toArray) O (upd s.heap id (.lst te' sz' (ns.take n ++ es.drop n))) loc) (fun k => (news.take (n * sz')).getD k undef) sz' (ns.take n) := by
                  refine ⟨fun i hi => ?_, fun i j hi hj => ?_⟩
                  · have hi' : i < n := by simp at hi; omega
                    rw [getD_take hi']; exact hf.1 i (by omega)
                  · have hi' : i < n := by simp at hi; omega
                    have hb : i * sz' + j < n * sz' := by
                      have : (i + 1) * sz' ≤ n * sz' := Nat.mul_le_mul_right _ hi'
                      rw [Nat.add_mul] at this; omega
                    simp only [getD_take hi', getD_take hb]
                    exact hrel _ _ (hf.2 i j (by omega) hj)
                have f2 : Flat (env (w.setRow g (news.take (n * sz') ++ cur.toList.drop (n * sz')).toArray) O (upd s.heap id (.lst te' sz' (ns.take n ++ es.drop n))) loc) (fun k => (xs.drop (n * sz')).getD k undef) sz' (es.drop n) := by
                  refine ⟨fun i hi => ?_, fun i j hi hj => ?_⟩
                  · rw [getD_drop]; exact hfx.1 _ (by simp at hi; omega)
                  · simp only [getD_drop]
                    have := hrel _ _ (hfx.2 (n + i) j (by simp at hi; omega) hj)
                    rwa [Nat.add_mul, Nat.add_assoc] at this
                exact Flat.append f1 (by rw [hcl, List.length_take, Nat.min_eq_left hn1]) f2 (fun i j hi hj hr => hr))
            refine ⟨_, _, .sc (.int .i64 n), _, loc, ?_, .inl ⟨.int .i64 n, rfl, .sc _⟩, hK, k1⟩
            unfold execOp
            simp only [ho, resolve, invoke, builtin, Sem.run_bind, Sem.run_pure, Result.andThen_ok, List.map_toArray, List.map_cons, List.map_nil, ex, ey]
            have e'' : (env w O s.heap loc).loc id = .slice (some ⟨g, 0, none⟩) es.length cap := e
            rw [e'']
            have hfc : (Builtin.firstCells sz' n (.slice ad ns.length c)).run P w = .ok (news.take (n * sz')).toArray w := by
              rcases Nat.eq_zero_or_pos n with h0 | h0
              · subst h0; cases ad <;> simp [Builtin.firstCells, loadCells, loadCellsFrom]
              · obtain ⟨b, rfl, hb⟩ := hcell (by rintro rfl; simp at hn1; omega)
                exact run_firstCells_some (P := P) w sz' n b _ _ _ hcl (fun j u hju => hb j u (by
                  rw [List.getElem?_take] at hju
                  split at hju
                  · exact hju
                  · cases hju))
            have hsz : (sizeOf te').run P w = .ok sz' w := by simp [sizeOf, typeInfo, hie, his]
            have hst' : (storeCells ⟨g, 0, none⟩ (news.take (n * sz')).toArray.toList).run P w = .ok () (w.setRow g (news.take (n * sz') ++ cur.toList.drop (n * sz')).toArray) := by simpa using hst
            simp only [Builtin.copy_, Sem.run_bind, run_underlying hu, Result.andThen_ok, List.getElem?_toArray, List.getElem?_cons_zero, List.getElem?_cons_succ, Builtin.lenOf, Sem.run_pure, hmin, hsz, hfc, hst']
            simp [goInt]
        · exact h.elim
      · exact h.elim
    · exact h.elim
  · exact h.elim

theorem op_makeSlice {K : V → St → Prop} {t : TypeId} {l c : Operand} (ho : o.op = .makeSlice t l c) (h : opK P o s K) (S : SimAt w0 O M s.heap loc s.slots a.tmps.toList w) : Steps1 P w0 O M a w o K := by
  simp only [opK, ho] at h
  split at h
  · rename_i te sz by_ k n k' m ht e1 e2
    split at h
    · rename_i z hz
      obtain ⟨rfl, h0, hb1, hb2, hsz, hzl, hzo, h⟩ := h
      obtain ⟨d, hdst, hfree, hK⟩ := free_elim h
      obtain ⟨hu, ie, hie, his, hib⟩ := slv_run ht
      obtain ⟨i2, zx, hi2, hzx, hzr⟩ := zv_rel hz (env w O s.heap loc)
      rw [hie] at hi2; cases hi2
      have hl := ev_rel S.vals l
      have hc := ev_rel S.vals c
      rw [e1] at hl; rw [e2] at hc
      have hzc := hzr.cells hzo
      have hzs : zx.cells.size = sz := by have := hzc.1; rw [Array.length_toList] at this; omega
      have hbb : (ie.bytes : Int) * n ≤ 281474976710656 := by
        have : ((n.toNat * by_ : Nat) : Int) ≤ 140737488355328 := by omega
        rw [hib]
        rw [Int.natCast_mul, Int.toNat_of_nonneg h0, Int.mul_comm] at this
        omega
      have hrun := run_make (P := P) w t te ie zx hu hie hzx k k' n n h0 (Int.le_refl _) hbb (by omega)
      rw [his] at hrun
      -- the cells: a zero after the other
      have hcell : ∀ i j, i < n.toNat → j < sz → (madeCells zx.cells (n.toNat * sz)).getD (i * sz + j) undef = zx.cells.getD j undef := by
        intro i j hi hj
        have hb : i * sz + j < n.toNat * sz := by
          have : (i + 1) * sz ≤ n.toNat * sz := Nat.mul_le_mul_right _ hi
          rw [Nat.add_mul] at this; omega
        have hmod : (i * sz + j) % sz = j := by rw [Nat.mul_comm, Nat.mul_add_mod, Nat.mod_eq_of_lt hj]
        have hjz : j < zx.cells.size := by omega
        have g1 : zx.cells[j]! = zx.cells[j] := getElem!_pos zx.cells j hjz
        have g2 : zx.cells[j]?.getD undef = zx.cells[j] := by simp [hjz]
        simp [madeCells, Array.getD_eq_getD_getElem?, hb, hzs, hmod, g1]
        exact g2.symm
      have hdz : z.data = true := by
        unfold zv at hz
        rw [hie] at hz
        simp only [hzx, Option.map_some, Option.some.injEq] at hz
        subst hz
        cases zx <;> simp [ofZero, V.data]
        rw [V.dataL_iff]
        intro v hv
        obtain ⟨y, _, rfl⟩ := List.mem_map.1 hv
        rfl
      have hdat : V.dataL (List.replicate n.toNat z) = true := by
        rw [V.dataL_iff]; intro v hv; rw [(List.mem_replicate.1 hv).2]; exact hdz
      have hgr := Grows.alloc w (.cells (madeCells zx.cells (n.toNat * sz)) te)
      have hget : ∀ i, i < n.toNat → (List.replicate n.toNat z).getD i .any = z := fun i hi => by simp [List.getD_eq_getElem?_getD, hi]
      obtain ⟨k1, k2⟩ := S.new d hfree hgr (.slice (some ⟨w.heap.size, 0, none⟩) n.toNat n.toNat) (.lst te sz (List.replicate n.toNat z)) (by intro b hb; simp [blk] at hb; omega) (fun hrel => by
        refine ⟨⟨hsz, hdat⟩, (madeCells zx.cells (n.toNat * sz)).toList, ?_, ?_⟩
        · show World.ownsRow _ 0 te sz (if d = d then _ else loc d) _ _
          rw [if_pos rfl, List.length_replicate]
          refine ⟨by rw [Array.length_toList, size_madeCells], .inr ⟨w.heap.size, n.toNat, _, rfl, Nat.zero_le _, heap_alloc_new w _, Nat.le_refl _, by simp only [maxLen]; omega, size_madeCells _ _, ?_⟩⟩
          rw [List.take_of_length_le (by rw [Array.length_toList, size_madeCells]; exact Nat.le_refl _)]
        · refine ⟨fun i hi => by rw [List.length_replicate] at hi; rw [hget i hi]; exact hzl, fun i j hi hj => ?_⟩
          rw [List.length_replicate] at hi
          rw [hget i hi]
          have e : (madeCells zx.cells (n.toNat * sz)).toList.getD (i * sz + j) undef = zx.cells.getD j undef := by
            rw [← hcell i j hi hj]; simp [Array.getD_eq_getD_getElem?, List.getD_eq_getElem?_getD]
          simp only [e]
          have := hzc.getD j
          refine hrel _ _ ?_
          simpa [Array.getD_eq_getD_getElem?, List.getD_eq_getElem?_getD] using this)
      refine ⟨.value (.slice (some ⟨w.heap.size, 0, none⟩) n.toNat n.toNat), _, .own d, _, _, ?_, .inl ⟨_, rfl, ?_⟩, hK, k1⟩
      · unfold execOp
        simp only [ho, Rel.sc_iff.1 hl, Rel.sc_iff.1 hc]
        exact run_lift hrun
      · have := Rel.own (E := env (w.alloc (.cells (madeCells zx.cells (n.toNat * sz)) te)) O ((d, .lst te sz (List.replicate n.toNat z)) :: s.heap) (fun k => if k = d then .slice (some ⟨w.heap.size, 0, none⟩) n.toNat n.toNat else loc k)) d (.lst te sz (List.replicate n.toNat z)) (look_eq d _ _) rfl ⟨some ⟨w.heap.size, 0, none⟩, n.toNat, n.toNat, if_pos rfl⟩
        simpa [env] using this
    · exact h.elim
  · exact h.elim

theorem run_eq_nil {t e : TypeId} (hu : P.underlying t = some (.slice e)) (b : Option Addr) (n c : Nat) {x y : Operand} :
    (do eqGuard .eql t x y (.slice b n c) (.slice none 0 0); binOp .eql t (.slice b n c) (.slice none 0 0) : Sem Value).run P w = .ok (.bool b.isNone) w := by
  rw [Sem.run_bind, show (eqGuard .eql t x y (.slice b n c) (.slice none 0 0)).run P w = .ok () w from rfl]
  exact run_eql_slice_nil w t e b n c hu

/-! ### Maps -/
theorem op_makeMap {K : V → St → Prop} {t : TypeId} (ho : o.op = .makeMap t none) (h : opK P o s K) (S : SimAt w0 O M s.heap loc s.slots a.tmps.toList w) : Steps1 P w0 O M a w o K := by
  simp only [opK, ho] at h
  obtain ⟨d, hd, hf, h⟩ := free_elim h.2
  have hg := Grows.alloc w (.map #[] 0)
  obtain ⟨h1, h2⟩ := S.new d hf hg (.map (some w.heap.size)) (.map [] []) (by intro b hb; simp [blk] at hb; omega)
    (fun hrel => ⟨w.heap.size, #[], 0, by simp [env], heap_alloc_new w _, ⟨rfl, rfl⟩, by simp, rfl, by simp⟩)
  refine ⟨_, _, _, _, _, ?_, .inl ⟨.map (some w.heap.size), rfl, ?_⟩, h, h1⟩
  · unfold execOp
    simp only [ho]
    refine run_lift ?_
    simp [Instr.makeMap]
  · have := Rel.mp (E := env (w.alloc (.map #[] 0)) O ((d, .map [] []) :: s.heap) (fun k => if k = d then .map (some w.heap.size) else loc k)) d (.map [] []) (by simp [env, look]) rfl ⟨some w.heap.size, by simp [env]⟩
    simpa [env] using this

theorem setObj_ext (w : World) (g : Nat) (ob : Go.Obj) : Ext w (fun b => b = g) { w with heap := w.heap.setIfInBounds g ob } :=
  ⟨rfl, rfl, rfl, by simp, fun b _ hb => by simp [Array.getElem?_setIfInBounds_ne (fun e => hb e.symm)]⟩
theorem run_setObj' {g : Nat} {arr : Array MapEntry} {clk : Nat} (ob : Go.Obj) (hb : w.heap[g]? = some (.map arr clk)) : (setObj g ob).run P w = .ok () { w with heap := w.heap.setIfInBounds g ob } := by
  simp [setObj, Sem.run, hb]
theorem setObj_at {g : Nat} {ob : Go.Obj} {x : Go.Obj} (hb : w.heap[g]? = some x) : (w.heap.setIfInBounds g ob)[g]? = some ob := by
  have : g < w.heap.size := (Array.getElem?_eq_some_iff.1 hb).1
  simp [this]

/-- What is written of a map. -/
theorem mapWr_elim {m k : V} {t : TypeId} {K : Nat → List Value → List V → Value → Option Nat → Prop} (h : mapWr P s t m k K) (S : SimAt w0 O M s.heap loc s.slots a.tmps.toList w) {xm xk : Value} (hm : Rel (env w O s.heap loc) xm m) (hk : Rel (env w O s.heap loc) xk k) :
    ∃ id ks vs r kt te g arr clk, K id ks vs xk r ∧ look s.heap id = some (.map ks vs) ∧ xm = .map (some g) ∧ loc id = .map (some g) ∧ w.heap[g]? = some (.map arr clk) ∧ (arr.size = ks.length ∧ vs.length = ks.length) ∧
      (∀ i, i < ks.length → (arr.getD i default).key = ks.getD i undef) ∧ V.dataL vs = true ∧ (∀ i, i < ks.length → Rel (env w O s.heap loc) (arr.getD i default).val (vs.getD i .any)) ∧
      P.underlying t = some (.map kt te) ∧ (∀ b n v, (Instr.checkKey b (n + 1) kt v).run P w = .ok () w) ∧ (Instr.findKey kt xk arr.toList).run P w = .ok (r.map fun j => (j, (arr.getD j default).val)) w ∧
      (∀ j, r = some j → j < ks.length ∧ Instr.sameBits 10000 (arr.getD j default).key xk = true ∧ xk = ks.getD j undef) := by
  unfold mapWr at h
  split at h
  · rename_i kd te ht
    obtain ⟨kt, hu, hkt, hp⟩ := mpv_run ht
    split at h
    · rename_i id kv
      split at h
      · rename_i ks vs hl
        split at h
        · rename_i r hr
          obtain ⟨g, arr, clk, e1, hg, ⟨h1, h2⟩, h3, h4, h5⟩ := S.objs id _ hl
          have ek := Rel.sc_iff.1 hk
          subst ek
          obtain ⟨f1, f2⟩ := run_findKey (w := w) hkt h1 h3 hr
          have e2 : xm = loc id := by cases hm; rfl
          refine ⟨id, ks, vs, r, kt, te, g, arr, clk, h, hl, e2.trans e1, e1, hg, ⟨h1, h2⟩, h3, h4, h5, hu, fun b n v => run_checkKey hkt hp b n v, f1, ?_⟩
          rintro j rfl
          have hj := f2 j rfl
          have same : ∀ (ks : List Value) (i j : Nat), mfind kd xk ks i = some (some j) → i ≤ j ∧ Instr.sameNow kd xk (ks.getD (j - i) undef) = some true := by
            intro ks
            induction ks with
            | nil => intro i j h; simp [mfind] at h
            | cons x ks ih =>
              intro i j h
              simp only [mfind] at h
              split at h
              · rename_i hs; cases h; exact ⟨Nat.le_refl _, by simpa using hs⟩
              · obtain ⟨q1, q2⟩ := ih _ _ h
                refine ⟨by omega, ?_⟩
                rw [show j - i = (j - (i + 1)) + 1 by omega, List.getD_cons_succ]; exact q2
              · cases h
          have hs := (same ks 0 j hr).2
          rw [Nat.sub_zero] at hs
          rw [h3 j hj]
          generalize ks.getD j undef = y at hs
          have : xk = y ∧ Instr.sameBits 10000 y xk = true := by
            unfold Instr.sameNow at hs
            split at hs
            · rename_i k' a' k'' b'
              by_cases e : k' = k''
              · subst e; simp at hs; subst hs; exact ⟨rfl, by simp [Instr.sameBits]⟩
              · simp [e] at hs
            · rename_i a' b'
              have e := beq_bytes a' b'
              have hs' : (a' == b') = true := by simpa using hs
              rw [e] at hs'
              have := of_decide_eq_true hs'
              subst this
              refine ⟨rfl, ?_⟩
              show (a' == a') = true
              rw [e]; simp
            · rename_i a' b'
              simp at hs; subst hs; exact ⟨rfl, by cases a' <;> rfl⟩
            · cases hs
          exact ⟨hj, this.2, this.1⟩
        · exact h.elim
      · exact h.elim
    · exact h.elim
  · exact h.elim

theorem modify_getD {arr : Array MapEntry} {j : Nat} (f : MapEntry → MapEntry) (h : j < arr.size) (i : Nat) : (arr.modify j f).getD i default = if j = i then f (arr.getD i default) else arr.getD i default := by
  simp only [Array.getD_eq_getD_getElem?, Array.getElem?_modify]
  by_cases e : j = i
  · subst e; simp [h]
  · simp [e]
theorem map_upd {t : TypeId} {xm xk xv : Value} {x : V} {K : V → St → Prop} {m k : V} (h : mapWr P s t m k fun id ks vs kv r => x.data = true ∧ K .any ⟨s.slots, upd s.heap id (mset ks vs kv x r)⟩)
    (S : SimAt w0 O M s.heap loc s.slots a.tmps.toList w) (hm : Rel (env w O s.heap loc) xm m) (hk : Rel (env w O s.heap loc) xk k) (hx : Rel (env w O s.heap loc) xv x) :
    ∃ w' s', (Instr.mapUpdate t xm xk xv).run P w = .ok () w' ∧ K .any s' ∧ SimAt w0 O M s'.heap loc s'.slots a.tmps.toList w' := by
  obtain ⟨id, ks, vs, r, kt, te, g, arr, clk, ⟨hxd, hK⟩, hl, rfl, hloc, hg, ⟨h1, h2⟩, h3, h4, h5, hu, hck, hf, hr⟩ := mapWr_elim h S hm hk
  have hblk : blk (loc id) = some g := by rw [hloc]; rfl
  cases r with
  | none =>
    obtain ⟨k1, k2⟩ := S.write id (.map ks vs) (mset ks vs xk x none) hl (by simp [mset, Obj.alike]) hblk (setObj_ext w g (.map (arr.push { key := xk, val := xv, born := clk }) (clk + 1))) (fun hrel => by
      refine ⟨g, _, _, hloc, setObj_at hg, ⟨by simp [h1], by simp [h2]⟩, fun i hi => ?_, ?_, fun i hi => ?_⟩
      · by_cases hc : i < ks.length
        · have := h3 i hc
          rw [getD_append_left hc, ← this]
          simp [Array.getD_eq_getD_getElem?, Array.getElem?_push, show ¬ i = arr.size by omega]
        · have : i = ks.length := by simp at hi; omega
          subst this
          simp [Array.getD_eq_getD_getElem?, ← h1]
      · rw [V.dataL_append, h4]; simp [V.dataL, hxd]
      · by_cases hc : i < ks.length
        · have := hrel _ _ (h5 i hc)
          rw [getD_append_left (by omega)]
          simpa [Array.getD_eq_getD_getElem?, Array.getElem?_push, show ¬ i = arr.size by omega] using this
        · have : i = ks.length := by simp at hi; omega
          subst this
          have := hrel _ _ hx
          rw [getD_append_right (by omega)]
          simpa [Array.getD_eq_getD_getElem?, ← h1, h2] using this)
    refine ⟨_, _, ?_, hK, k1⟩
    simp [Instr.mapUpdate, run_underlying hu, run_getObj_map w g arr clk hg, hck, hf, run_setObj' _ hg]
  | some j =>
    obtain ⟨hj, hsb, hkey⟩ := hr j rfl
    have hjs : j < arr.size := by omega
    obtain ⟨e0, hja⟩ : ∃ e0, arr[j]? = some e0 := ⟨_, Array.getElem?_eq_getElem hjs⟩
    have he0 : arr.getD j default = e0 := by rw [Array.getD_eq_getD_getElem?, hja]; rfl
    rw [he0] at hsb
    obtain ⟨k1, k2⟩ := S.write id (.map ks vs) (mset ks vs xk x (some j)) hl (by simp [mset, Obj.alike]) hblk (setObj_ext w g (.map (arr.modify j fun e => { e with key := xk, val := xv }) clk)) (fun hrel => by
      refine ⟨g, _, _, hloc, setObj_at hg, ⟨by simp [h1], by simp [h2]⟩, fun i hi => ?_, ?_, fun i hi => ?_⟩
      · by_cases hc : j = i
        · subst hc
          rw [← hkey, modify_getD _ hjs, if_pos rfl]
        · rw [modify_getD _ hjs, if_neg hc]; exact h3 i hi
      · rw [V.dataL_iff] at h4 ⊢
        intro v hv
        rcases List.mem_or_eq_of_mem_set hv with h | rfl
        · exact h4 v h
        · exact hxd
      · by_cases hc : j = i
        · subst hc
          have e : (vs.set j x).getD j .any = x := by rw [List.getD_eq_getElem?_getD, List.getElem?_set, if_pos rfl, if_pos (by omega)]; rfl
          rw [modify_getD _ hjs, if_pos rfl, e]
          exact hrel _ _ hx
        · have e : (vs.set j x).getD i .any = vs.getD i .any := by rw [List.getD_eq_getElem?_getD, List.getElem?_set, if_neg hc, List.getD_eq_getElem?_getD]
          rw [modify_getD _ hjs, if_neg hc, e]
          exact hrel _ _ (h5 i hi))
    refine ⟨_, _, ?_, hK, k1⟩
    simp [Instr.mapUpdate, run_underlying hu, run_getObj_map w g arr clk hg, hck, hf, run_setObj' _ hg, hja, Instr.keyThatStays, hsb]

theorem op_mapUpdate {K : V → St → Prop} {t : TypeId} {m k x : Operand} (ho : o.op = .mapUpdate t m k x) (h : opK P o s K) (S : SimAt w0 O M s.heap loc s.slots a.tmps.toList w) : Steps1 P w0 O M a w o K := by
  simp only [opK, ho] at h
  obtain ⟨w', s', h1, h2, h3⟩ := map_upd h S (ev_rel S.vals m) (ev_rel S.vals k) (ev_rel S.vals x)
  refine ⟨.skip, _, _, _, loc, ?_, .inr ⟨rfl, rfl⟩, h2, h3⟩
  unfold execOp
  simp [ho, Sem.run_bind, h1]
theorem op_insert {K : V → St → Prop} {t : TypeId} {m k x : Operand} (ho : o.op = .insert t m k x) (h : opK P o s K) (S : SimAt w0 O M s.heap loc s.slots a.tmps.toList w) : Steps1 P w0 O M a w o K := by
  simp only [opK, ho] at h
  obtain ⟨w', s', h1, h2, h3⟩ := map_upd h S (ev_rel S.vals m) (ev_rel S.vals k) (ev_rel S.vals x)
  refine ⟨.skip, _, _, _, loc, ?_, .inr ⟨rfl, rfl⟩, h2, h3⟩
  unfold execOp
  simp [ho, Sem.run_bind, h1]

theorem op_delete {K : V → St → Prop} {args : Array Operand} {argTypes : Array TypeId} (ho : o.op = .call { callee := .builtin .delete, args, argTypes }) (h : opK P o s K) (S : SimAt w0 O M s.heap loc s.slots a.tmps.toList w) : Steps1 P w0 O M a w o K := by
  simp only [opK, ho] at h
  split at h
  · rename_i m k t t' hargs htys
    have ea : args = #[m, k] := by cases args; simp_all
    have et : argTypes = #[t, t'] := by cases argTypes; simp_all
    subst ea; subst et
    obtain ⟨id, ks, vs, r, kt, te, g, arr, clk, hK, hl, hm, hloc, hg, ⟨h1, h2⟩, h3, h4, h5, hu, hck, hf, hr⟩ := mapWr_elim h S (ev_rel S.vals m) (ev_rel S.vals k)
    have hblk : blk (loc id) = some g := by rw [hloc]; rfl
    have exec : ∀ {w' : World}, (Builtin.delete_ #[t, t'] o.type #[.map (some g), a.eval k]).run P w = .ok (.tuple #[]) w' → (execOp a.eval o).run P w = .ok (.value (.tuple #[])) w' := by
      intro w' hrun
      unfold execOp
      simp only [ho, resolve, invoke, builtin, Sem.run_bind, Sem.run_pure, Result.andThen_ok, List.map_toArray, List.map_cons, List.map_nil, hm, hrun]
    cases r with
    | none =>
      obtain ⟨k1, k2⟩ := S.write id (.map ks vs) (mdel ks vs none) hl (by simp [mdel, Obj.alike]) hblk (setObj_ext w g (.map arr clk)) (fun hrel => ⟨g, _, _, hloc, setObj_at hg, ⟨h1, h2⟩, h3, h4, fun i hi => hrel _ _ (h5 i hi)⟩)
      refine ⟨_, _, _, _, loc, exec ?_, .inl ⟨_, rfl, .any _⟩, hK, k1⟩
      simp [Builtin.delete_, run_underlying hu, run_getObj_map w g arr clk hg, hck, hf, run_setObj' _ hg]
    | some j =>
      obtain ⟨hj, _, _⟩ := hr j rfl
      obtain ⟨k1, k2⟩ := S.write id (.map ks vs) (mdel ks vs (some j)) hl (by simp [mdel, Obj.alike]) hblk (setObj_ext w g (.map (arr.eraseIdxIfInBounds j) clk)) (fun hrel => by
        have hja : j < arr.size := by omega
        have hget : ∀ i, (arr.eraseIdxIfInBounds j).getD i default = if i < j then arr.getD i default else arr.getD (i + 1) default := by
          intro i
          simp only [Array.eraseIdxIfInBounds, dif_pos hja, Array.getD_eq_getD_getElem?, Array.getElem?_eraseIdx]
          split <;> rfl
        have hkd : ∀ i, (ks.eraseIdx j).getD i undef = if i < j then ks.getD i undef else ks.getD (i + 1) undef := by
          intro i
          simp only [List.getD_eq_getElem?_getD, List.getElem?_eraseIdx]
          split <;> rfl
        have hvd : ∀ i, (vs.eraseIdx j).getD i .any = if i < j then vs.getD i .any else vs.getD (i + 1) .any := by
          intro i
          simp only [List.getD_eq_getElem?_getD, List.getElem?_eraseIdx]
          split <;> rfl
        have hlen : (ks.eraseIdx j).length = ks.length - 1 := List.length_eraseIdx_of_lt hj
        refine ⟨g, _, _, hloc, setObj_at hg, ⟨?_, ?_⟩, fun i hi => ?_, ?_, fun i hi => ?_⟩
        · simp only [Array.eraseIdxIfInBounds, dif_pos hja, Array.size_eraseIdx]; omega
        · rw [List.length_eraseIdx_of_lt (by omega)]; omega
        · rw [hget, hkd]
          split
          · exact h3 i (by omega)
          · exact h3 (i + 1) (by omega)
        · rw [V.dataL_iff] at h4 ⊢
          exact fun v hv => h4 v (List.mem_of_mem_eraseIdx hv)
        · rw [hget, hvd]
          split
          · exact hrel _ _ (h5 i (by omega))
          · exact hrel _ _ (h5 (i + 1) (by omega)))
      refine ⟨_, _, _, _, loc, exec ?_, .inl ⟨_, rfl, .any _⟩, hK, k1⟩
      simp [Builtin.delete_, run_underlying hu, run_getObj_map w g arr clk hg, hck, hf, run_setObj' _ hg]
  · exact h.elim

/-- EVERY OPERATION OF AN ORDERED REGION BUT CALLS. -/
theorem op_sound {K : V → St → Prop} (h : opK P o s K) (S : SimAt w0 O M s.heap loc s.slots a.tmps.toList w) : Steps1 P w0 O M a w o K := by
  cases hop : o.op with
  | box t x => exact op_box hop h S
  | alloc t => exact op_alloc hop h S
  | store t p x => exact op_store hop h S
  | buildSlice t n parts => exact op_buildSlice hop h S
  | makeSlice t l c => exact op_makeSlice hop h S
  | makeMap t r =>
    cases r with
    | none => exact op_makeMap hop h S
    | some r => simp only [opK, hop, valK] at h
  | mapUpdate t m k x => exact op_mapUpdate hop h S
  | insert t m k x => exact op_insert hop h S
  | call c =>
    obtain ⟨callee, args, argTypes⟩ := c
    cases callee with
    | builtin b =>
      cases b
      case append => exact op_append hop h S
      case copy => exact op_copy hop h S
      case delete => exact op_delete hop h S
      all_goals
        simp only [opK, hop] at h
        exact Steps1.val hop h S
    | value f => simp only [opK, hop, valK] at h
    | invoke r m => simp only [opK, hop, valK] at h
  | binOp op t x y ty =>
    cases op
    case eql =>
      simp only [opK, hop] at h
      have sl : (slv P t).isSome = true → ∃ e, P.underlying t = some (.slice e) := fun hs => by
        obtain ⟨⟨te, sz, by_⟩, ht⟩ := Option.isSome_iff_exists.1 hs
        exact ⟨_, (slv_run ht).1⟩
      have fin : ∀ (b : Option Addr) (n c : Nat) (r : Bool), a.eval x = .slice b n c → a.eval y = .slice none 0 0 → (slv P t).isSome = true → b.isNone = r → K (.sc (.bool r)) s → Steps1 P w0 O M a w o K := by
        intro b n c r hx hy hs hr hK
        obtain ⟨e, hu⟩ := sl hs
        refine ⟨_, w, _, s, loc, ?_, .inl ⟨_, rfl, .sc (.bool r)⟩, hK, S⟩
        unfold execOp
        simp only [hop, hx, hy]
        rw [← hr]
        exact run_lift (run_eq_nil hu b n c)
      split at h
      · rename_i full es ex ey
        obtain ⟨hs, h1, h2⟩ := h
        have hx := ev_rel S.vals x
        have hy := ev_rel S.vals y
        rw [ex] at hx; rw [ey] at hy
        by_cases h0 : es = []
        · obtain ⟨b, c, e, _⟩ := rel_sl_len hx
          exact fin _ _ _ _ e (Rel.sc_iff.1 hy) hs rfl (h2 h0 _)
        · obtain ⟨g, off, c, sz, e, _⟩ := rel_sl_elem hx h0
          exact fin _ _ _ false e (Rel.sc_iff.1 hy) hs rfl (h1 h0)
      · rename_i id ex ey
        split at h
        · rename_i te sz es hob
          obtain ⟨hs, h1, h2⟩ := h
          have hx := ev_rel S.vals x
          have hy := ev_rel S.vals y
          rw [ex] at hx; rw [ey] at hy
          obtain ⟨e, _⟩ := hx.own_inv
          rcases blk_own (S.objs id _ hob) with ⟨g, c, e', _⟩ | ⟨e', h0⟩
          · by_cases h0 : es = []
            · exact fin _ _ _ _ (e.trans e') (Rel.sc_iff.1 hy) hs rfl (h2 h0 _)
            · exact fin _ _ _ false (e.trans e') (Rel.sc_iff.1 hy) hs rfl (h1 h0)
          · exact fin _ _ _ _ (e.trans e') (Rel.sc_iff.1 hy) hs rfl (h2 (List.eq_nil_of_length_eq_zero h0) _)
        · exact h.elim
      · rename_i ex ey
        obtain ⟨hs, h1⟩ := h
        have hx := ev_rel S.vals x
        have hy := ev_rel S.vals y
        rw [ex] at hx; rw [ey] at hy
        exact fin _ _ _ true (Rel.sc_iff.1 hx) (Rel.sc_iff.1 hy) hs rfl h1
      · exact Steps1.val hop h S
    all_goals
      simp only [opK, hop] at h
      exact Steps1.val hop h S
  | _ =>
    simp only [opK, hop] at h
    exact Steps1.val hop h S
end
end Go.AM
