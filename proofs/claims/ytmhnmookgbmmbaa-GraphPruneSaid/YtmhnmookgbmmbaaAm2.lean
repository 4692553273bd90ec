/- The abstract machine, part 2: what relates an abstract state to a frame and a world ('SimAt'), and how it is carried along. -/
import Derived.Test.YtmhnmookgbmmbaaAm1
set_option linter.unusedVariables false
set_option linter.unusedSimpArgs false
namespace Go.AM

namespace V
mutual
theorem kill_data (d : Nat) : (v : V) → v.data = true → v.kill d = v
  | .sc _, _ => by simp [kill]
  | .any, _ => by simp [kill]
  | .junk, _ => by simp [kill]
  | .agg cs, h => by simp only [kill]; rw [killL_data d cs (by simpa [data] using h)]
  | .tup cs, h => by simp only [kill]; rw [killL_data d cs (by simpa [data] using h)]
  | .sl _ _, _ => by simp [kill]
  | .pt _, _ => by simp [kill]
  | .fn _ cs, h => by simp only [kill]; rw [killL_data d cs (by simpa [data] using h)]
  | .dmp _ _, _ => by simp [kill]
  | .own _, h => by simp [data] at h
  | .ptr .., h => by simp [data] at h
  | .vw .., h => by simp [data] at h
  | .mp _, h => by simp [data] at h
theorem killL_data (d : Nat) : (vs : List V) → dataL vs = true → killL d vs = vs
  | [], _ => by simp [killL]
  | v :: vs, h => by
    have h' : data v = true ∧ dataL vs = true := by simpa [dataL] using h
    simp only [killL]; rw [kill_data d v h'.1, killL_data d vs h'.2]
end
mutual
theorem frz_data (d : Nat) (x z : V) : (v : V) → v.data = true → frz d x z v = v
  | .sc _, _ => by simp [frz]
  | .any, _ => by simp [frz]
  | .junk, _ => by simp [frz]
  | .agg cs, h => by simp only [frz]; rw [frzL_data d x z cs (by simpa [data] using h)]
  | .tup cs, h => by simp only [frz]; rw [frzL_data d x z cs (by simpa [data] using h)]
  | .sl _ _, _ => by simp [frz]
  | .pt _, _ => by simp [frz]
  | .fn _ cs, h => by simp only [frz]; rw [frzL_data d x z cs (by simpa [data] using h)]
  | .dmp _ _, _ => by simp [frz]
  | .own _, h => by simp [data] at h
  | .ptr .., h => by simp [data] at h
  | .vw .., h => by simp [data] at h
  | .mp _, h => by simp [data] at h
theorem frzL_data (d : Nat) (x z : V) : (vs : List V) → dataL vs = true → frzL d x z vs = vs
  | [], _ => by simp [frzL]
  | v :: vs, h => by
    have h' : data v = true ∧ dataL vs = true := by simpa [dataL] using h
    simp only [frzL]; rw [frz_data d x z v h'.1, frzL_data d x z vs h'.2]
end
theorem data_getD_cells {es : List V} (h : dataL es = true) (i j : Nat) : data ((es.getD i .any).cells.getD j .any) = true :=
  dataL_getD (data_cells (dataL_getD h i)) j
end V

/-- What is known of the world since: 'M' may have been written. -/
structure Ext (w0 : World) (M : Nat → Prop) (w : World) : Prop where
  os : w.os = w0.os
  tape : w.tape = w0.tape
  output : w.output = w0.output
  size : w0.heap.size ≤ w.heap.size
  block : ∀ b, b < w0.heap.size → ¬ M b → w.heap[b]? = w0.heap[b]?
theorem Ext.refl (w : World) (M : Nat → Prop) : Ext w M w := ⟨rfl, rfl, rfl, Nat.le_refl _, fun _ _ _ => rfl⟩
theorem Ext.trans {a b c : World} {M M' : Nat → Prop} (h : Ext a M b) (k : Ext b M' c) (hM : ∀ x, M' x → x < a.heap.size → M x) : Ext a M c :=
  ⟨k.os.trans h.os, k.tape.trans h.tape, k.output.trans h.output, Nat.le_trans h.size k.size, fun x hx hm =>
    (k.block x (Nat.lt_of_lt_of_le hx h.size) (fun e => hm (hM x e hx))).trans (h.block x hx hm)⟩
/-- New blocks, draws; nothing written. -/
abbrev Grows (w w' : World) : Prop := Ext w (fun _ => False) w'
theorem Grows.alloc (w : World) (o : Go.Obj) : Grows w (w.alloc o) := ⟨rfl, rfl, rfl, by simp, fun b hb _ => heap_alloc_old w o b hb⟩
theorem Grows.drew (w : World) : Grows w w.drew := ⟨rfl, rfl, rfl, by simp, fun b hb _ => rfl⟩
theorem Ext.grows {a b c : World} {M : Nat → Prop} (h : Ext a M b) (k : Grows b c) : Ext a M c := h.trans k (fun _ e => e.elim)

def env (w : World) (O : Nat → Prop) (H : Heap) (loc : Nat → Value) : Env where
  w := w
  F b := b < w.heap.size ∧ ¬ O b ∧ ∀ id, (look H id).isSome = true → blk (loc id) ≠ some b
  obj := look H
  loc := loc

theorem cell_of_heap {w w' : World} {b : Nat} (h : w'.heap[b]? = w.heap[b]?) (o : Nat) : w'.cell? ⟨b, o, none⟩ = w.cell? ⟨b, o, none⟩ := by
  simp [World.cell?, h]

theorem alike_lst {o o' : Obj} (h : o'.alike o) : isLst o' = isLst o := by cases o <;> cases o' <;> simp_all [Obj.alike, isLst]
theorem alike_row {o o' : Obj} (h : o'.alike o) : isRow o' = isRow o := by cases o <;> cases o' <;> simp_all [Obj.alike, isRow]
theorem alike_map {o o' : Obj} (h : o'.alike o) : isMap o' = isMap o := by cases o <;> cases o' <;> simp_all [Obj.alike, isMap]

section
variable {E E' : Env}
theorem Rel.mono (hF : ∀ b, E.F b → E'.F b ∧ E'.w.heap[b]? = E.w.heap[b]?)
    (hid : ∀ id o, E.obj id = some o → ∃ o', E'.obj id = some o' ∧ o'.alike o ∧ E'.loc id = E.loc id) {x : Value} {v : V} (h : Rel E x v) : Rel E' x v := by
  induction h with
  | sc x => exact .sc x
  | any x => exact .any x
  | junk x h => exact .junk x h
  | agg arr cs h _ ih => exact .agg arr cs h ih
  | tup arr cs h _ ih => exact .tup arr cs h ih
  | nil full a c h1 h2 => exact .nil full a c h1 h2
  | sl full es g off c sz f a1 a2 a3 a4 a5 a6 a7 a8 a9 ih =>
    exact .sl full es g off c sz f a1 a2 a3 a4 (hF g a5).1 a6 a7 (fun k hk => by rw [cell_of_heap (hF g a5).2]; exact a8 k hk) ih
  | pt v g off f a1 a2 a3 a4 ih => exact .pt v g off f a1 (hF g a2).1 (fun k hk => by rw [cell_of_heap (hF g a2).2]; exact a3 k hk) ih
  | fn f arr caps a1 a2 ih => exact .fn f arr caps a1 ih
  | own id o a1 a2 a3 =>
    obtain ⟨o', h1, h2, h3⟩ := hid id o a1
    rw [← h3]; exact .own id o' h1 ((alike_lst h2).trans a2) (by rw [h3]; exact a3)
  | ptr id i fo o g a1 a2 =>
    obtain ⟨o', h1, h2, h3⟩ := hid id o a1
    rw [← Obj.alike_sz h2]; exact .ptr id i fo o' g h1 (by rw [h3]; exact a2)
  | vw id off len cap o g a1 a2 a3 a4 =>
    obtain ⟨o', h1, h2, h3⟩ := hid id o a1
    rw [← Obj.alike_sz h2]; exact .vw id off len cap o' g h1 ((alike_row h2).trans a2) (by rw [h3]; exact a3) a4
  | mp id o a1 a2 a3 =>
    obtain ⟨o', h1, h2, h3⟩ := hid id o a1
    rw [← h3]; exact .mp id o' h1 ((alike_map h2).trans a2) (by rw [h3]; exact a3)
  | dnil => exact .dnil
  | dmp ks vs g arr clk a1 a2 a3 a4 a5 a6 a7 ih => exact .dmp ks vs g arr clk a1 (hF g a2).1 (by rw [(hF g a2).2]; exact a3) a4 a5 a6 ih

theorem Rel.data_mono (hF : ∀ b, E.F b → E'.F b ∧ E'.w.heap[b]? = E.w.heap[b]?) {x : Value} {v : V} (h : Rel E x v) (hd : v.data = true) : Rel E' x v := by
  induction h with
  | sc x => exact .sc x
  | any x => exact .any x
  | junk x h => exact .junk x h
  | agg arr cs h _ ih => exact .agg arr cs h (fun i hi => ih i hi (V.dataL_getD (by simpa [V.data] using hd) i))
  | tup arr cs h _ ih => exact .tup arr cs h (fun i hi => ih i hi (V.dataL_getD (by simpa [V.data] using hd) i))
  | nil full a c h1 h2 => exact .nil full a c h1 h2
  | sl full es g off c sz f a1 a2 a3 a4 a5 a6 a7 a8 a9 ih =>
    exact .sl full es g off c sz f a1 a2 a3 a4 (hF g a5).1 a6 a7 (fun k hk => by rw [cell_of_heap (hF g a5).2]; exact a8 k hk) (fun i j hi hj => ih i j hi hj (V.data_getD_cells a1 i j))
  | pt v g off f a1 a2 a3 a4 ih => exact .pt v g off f a1 (hF g a2).1 (fun k hk => by rw [cell_of_heap (hF g a2).2]; exact a3 k hk) (fun j hj => ih j hj (V.dataL_getD (V.data_cells a1) j))
  | fn f arr caps a1 a2 ih => exact .fn f arr caps a1 (fun i hi => ih i hi (V.dataL_getD (by simpa [V.data] using hd) i))
  | own | ptr | vw | mp => simp [V.data] at hd
  | dnil => exact .dnil
  | dmp ks vs g arr clk a1 a2 a3 a4 a5 a6 a7 ih => exact .dmp ks vs g arr clk a1 (hF g a2).1 (by rw [(hF g a2).2]; exact a3) a4 a5 a6 (fun i hi => ih i hi (V.dataL_getD a1 i))

theorem Rel.kill (d : Nat) (hF : ∀ b, E.F b → E'.F b ∧ E'.w.heap[b]? = E.w.heap[b]?)
    (hid : ∀ id o, id ≠ d → E.obj id = some o → ∃ o', E'.obj id = some o' ∧ o'.alike o ∧ E'.loc id = E.loc id) {x : Value} {v : V} (h : Rel E x v) : Rel E' x (v.kill d) := by
  induction h with
  | sc x => simp only [V.kill]; exact .sc x
  | any x => simp only [V.kill]; exact .any x
  | junk x h => simp only [V.kill]; exact .junk x h
  | agg arr cs h _ ih => simp only [V.kill]; exact .agg arr _ (by rw [V.killL_length]; exact h) (fun i hi => by rw [V.killL_getD]; exact ih i (by rwa [V.killL_length] at hi))
  | tup arr cs h _ ih => simp only [V.kill]; exact .tup arr _ (by rw [V.killL_length]; exact h) (fun i hi => by rw [V.killL_getD]; exact ih i (by rwa [V.killL_length] at hi))
  | nil full a c h1 h2 => simp only [V.kill]; exact .nil full a c h1 h2
  | sl full es g off c sz f a1 a2 a3 a4 a5 a6 a7 a8 a9 ih =>
    simp only [V.kill]
    exact .sl full es g off c sz f a1 a2 a3 a4 (hF g a5).1 a6 a7 (fun k hk => by rw [cell_of_heap (hF g a5).2]; exact a8 k hk) (fun i j hi hj => (a9 i j hi hj).data_mono hF (V.data_getD_cells a1 i j))
  | pt v g off f a1 a2 a3 a4 ih =>
    simp only [V.kill]
    exact .pt v g off f a1 (hF g a2).1 (fun k hk => by rw [cell_of_heap (hF g a2).2]; exact a3 k hk) (fun j hj => (a4 j hj).data_mono hF (V.dataL_getD (V.data_cells a1) j))
  | fn f arr caps a1 a2 ih => simp only [V.kill]; exact .fn f arr _ (by rw [V.killL_length]; exact a1) (fun i hi => by rw [V.killL_getD]; exact ih i (by rwa [V.killL_length] at hi))
  | own id o a1 a2 a3 =>
    simp only [V.kill]
    by_cases hd : id = d
    · rw [if_pos hd]; obtain ⟨a, n, c, e⟩ := a3; rw [e]; exact .junk _ rfl
    · rw [if_neg hd]
      obtain ⟨o', h1, h2, h3⟩ := hid id o hd a1
      rw [← h3]; exact .own id o' h1 ((alike_lst h2).trans a2) (by rw [h3]; exact a3)
  | ptr id i fo o g a1 a2 =>
    simp only [V.kill]
    by_cases hd : id = d
    · rw [if_pos hd]; exact .junk _ rfl
    · rw [if_neg hd]
      obtain ⟨o', h1, h2, h3⟩ := hid id o hd a1
      rw [← Obj.alike_sz h2]; exact .ptr id i fo o' g h1 (by rw [h3]; exact a2)
  | vw id off len cap o g a1 a2 a3 a4 =>
    simp only [V.kill]
    by_cases hd : id = d
    · rw [if_pos hd]; exact .junk _ rfl
    · rw [if_neg hd]
      obtain ⟨o', h1, h2, h3⟩ := hid id o hd a1
      rw [← Obj.alike_sz h2]; exact .vw id off len cap o' g h1 ((alike_row h2).trans a2) (by rw [h3]; exact a3) a4
  | mp id o a1 a2 a3 =>
    simp only [V.kill]
    by_cases hd : id = d
    · rw [if_pos hd]; obtain ⟨r, e⟩ := a3; rw [e]; exact .junk _ rfl
    · rw [if_neg hd]
      obtain ⟨o', h1, h2, h3⟩ := hid id o hd a1
      rw [← h3]; exact .mp id o' h1 ((alike_map h2).trans a2) (by rw [h3]; exact a3)
  | dnil => simp only [V.kill]; exact .dnil
  | dmp ks vs g arr clk a1 a2 a3 a4 a5 a6 a7 ih =>
    simp only [V.kill]
    exact .dmp ks vs g arr clk a1 (hF g a2).1 (by rw [(hF g a2).2]; exact a3) a4 a5 a6 (fun i hi => (a7 i hi).data_mono hF (V.dataL_getD a1 i))

/-- An object becomes data: its whole views read as 'y'. -/
theorem Rel.frz (d : Nat) (y z : V) (hF : ∀ b, E.F b → E'.F b ∧ E'.w.heap[b]? = E.w.heap[b]?)
    (hid : ∀ id o, id ≠ d → E.obj id = some o → ∃ o', E'.obj id = some o' ∧ o'.alike o ∧ E'.loc id = E.loc id)
    (hown : ∀ o, E.obj d = some o → isLst o = true → Rel E' (E.loc d) y)
    (hptr : ∀ o g, E.obj d = some o → blk (E.loc d) = some g → Rel E' (.pointer (some ⟨g, 0, none⟩)) z) (hmp : ∀ o, E.obj d = some o → isMap o = true → Rel E' (E.loc d) z) {x : Value} {v : V} (h : Rel E x v) : Rel E' x (V.frz d y z v) := by
  induction h with
  | sc x => simp only [V.frz]; exact .sc x
  | any x => simp only [V.frz]; exact .any x
  | junk x h => simp only [V.frz]; exact .junk x h
  | agg arr cs h _ ih => simp only [V.frz]; exact .agg arr _ (by rw [V.frzL_length]; exact h) (fun i hi => by rw [V.frzL_getD]; exact ih i (by rwa [V.frzL_length] at hi))
  | tup arr cs h _ ih => simp only [V.frz]; exact .tup arr _ (by rw [V.frzL_length]; exact h) (fun i hi => by rw [V.frzL_getD]; exact ih i (by rwa [V.frzL_length] at hi))
  | nil full a c h1 h2 => simp only [V.frz]; exact .nil full a c h1 h2
  | sl full es g off c sz f a1 a2 a3 a4 a5 a6 a7 a8 a9 ih =>
    simp only [V.frz]
    exact .sl full es g off c sz f a1 a2 a3 a4 (hF g a5).1 a6 a7 (fun k hk => by rw [cell_of_heap (hF g a5).2]; exact a8 k hk) (fun i j hi hj => (a9 i j hi hj).data_mono hF (V.data_getD_cells a1 i j))
  | pt v g off f a1 a2 a3 a4 ih =>
    simp only [V.frz]
    exact .pt v g off f a1 (hF g a2).1 (fun k hk => by rw [cell_of_heap (hF g a2).2]; exact a3 k hk) (fun j hj => (a4 j hj).data_mono hF (V.dataL_getD (V.data_cells a1) j))
  | fn f arr caps a1 a2 ih => simp only [V.frz]; exact .fn f arr _ (by rw [V.frzL_length]; exact a1) (fun i hi => by rw [V.frzL_getD]; exact ih i (by rwa [V.frzL_length] at hi))
  | own id o a1 a2 a3 =>
    simp only [V.frz]
    by_cases hd : id = d
    · rw [if_pos hd]; subst hd; exact hown o a1 a2
    · rw [if_neg hd]
      obtain ⟨o', h1, h2, h3⟩ := hid id o hd a1
      rw [← h3]; exact .own id o' h1 ((alike_lst h2).trans a2) (by rw [h3]; exact a3)
  | ptr id i fo o g a1 a2 =>
    simp only [V.frz]
    by_cases hd : id = d
    · rw [if_pos hd]; subst hd
      by_cases h0 : i = 0 ∧ fo = 0
      · rw [if_pos h0]; obtain ⟨rfl, rfl⟩ := h0; simpa using hptr o g a1 a2
      · rw [if_neg h0]; exact .junk _ rfl
    · rw [if_neg hd]
      obtain ⟨o', h1, h2, h3⟩ := hid id o hd a1
      rw [← Obj.alike_sz h2]; exact .ptr id i fo o' g h1 (by rw [h3]; exact a2)
  | vw id off len cap o g a1 a2 a3 a4 =>
    simp only [V.frz]
    by_cases hd : id = d
    · rw [if_pos hd]; exact .junk _ rfl
    · rw [if_neg hd]
      obtain ⟨o', h1, h2, h3⟩ := hid id o hd a1
      rw [← Obj.alike_sz h2]; exact .vw id off len cap o' g h1 ((alike_row h2).trans a2) (by rw [h3]; exact a3) a4
  | mp id o a1 a2 a3 =>
    simp only [V.frz]
    by_cases hd : id = d
    · rw [if_pos hd]; subst hd; exact hmp o a1 a2
    · rw [if_neg hd]
      obtain ⟨o', h1, h2, h3⟩ := hid id o hd a1
      rw [← h3]; exact .mp id o' h1 ((alike_map h2).trans a2) (by rw [h3]; exact a3)
  | dnil => simp only [V.frz]; exact .dnil
  | dmp ks vs g arr clk a1 a2 a3 a4 a5 a6 a7 ih =>
    simp only [V.frz]
    exact .dmp ks vs g arr clk a1 (hF g a2).1 (by rw [(hF g a2).2]; exact a3) a4 a5 a6 (fun i hi => (a7 i hi).data_mono hF (V.dataL_getD a1 i))
end

/-- A row of elements, cell by cell. -/
def Flat (E : Env) (f : Nat → Value) (sz : Nat) (es : List V) : Prop :=
  (∀ i, i < es.length → (es.getD i .any).cells.length = sz) ∧ ∀ i j, i < es.length → j < sz → Rel E (f (i * sz + j)) ((es.getD i .any).cells.getD j .any)

def ObjOK (E : Env) (id : Nat) : Obj → Prop
  | .var t v => ∃ g arr, E.loc id = .pointer (some ⟨g, 0, none⟩) ∧ E.w.heap[g]? = some (.cells arr t (0, 0)) ∧ RelL E arr.toList v.cells
  | .lst t sz es => (0 < sz ∧ V.dataL es = true) ∧ ∃ xs, E.w.ownsRow 0 t sz (E.loc id) es.length xs ∧ Flat E (fun k => xs.getD k undef) sz es
  | .row t sz es => (0 < sz ∧ V.dataL es = true) ∧ ∃ g arr, E.loc id = .slice (some ⟨g, 0, none⟩) es.length es.length ∧ E.w.heap[g]? = some (.cells arr t (0, 0)) ∧ arr.size = es.length * sz ∧ es.length ≤ maxLen ∧
      Flat E (fun k => arr.getD k undef) sz es
  | .map ks vs => ∃ (g : Nat) (arr : Array MapEntry) (clk : Nat), E.loc id = .map (some g) ∧ E.w.heap[g]? = some (.map arr clk) ∧ (arr.size = ks.length ∧ vs.length = ks.length) ∧
      (∀ i, i < ks.length → (arr.getD i default).key = ks.getD i undef) ∧ (V.dataL vs = true ∧ ∀ i, i < ks.length → Rel E (arr.getD i default).val (vs.getD i .any))

structure SimAt (w0 : World) (O M : Nat → Prop) (H : Heap) (loc : Nat → Value) (vs : List V) (xs : List Value) (w : World) : Prop where
  vals : RelL (env w O H loc) xs vs
  objs : ∀ id o, look H id = some o → ObjOK (env w O H loc) id o
  dist : ∀ id id' b, (look H id).isSome = true → (look H id').isSome = true → blk (loc id) = some b → blk (loc id') = some b → id = id'
  own : ∀ id b, (look H id).isSome = true → blk (loc id) = some b → ¬ O b ∧ (w0.heap.size ≤ b ∨ M b)
  ext : Ext w0 M w
  O_lt : ∀ b, O b → b < w0.heap.size

/-- The object's block lies in the heap. -/
theorem ObjOK.lt {E : Env} {id : Nat} {o : Obj} (h : ObjOK E id o) {b : Nat} (hb : blk (E.loc id) = some b) : b < E.w.heap.size := by
  cases o with
  | var t v =>
    obtain ⟨g, arr, e, hg, _⟩ := h
    rw [e] at hb; simp [blk] at hb; subst hb
    exact (Array.getElem?_eq_some_iff.1 hg).1
  | lst t sz es =>
    obtain ⟨_, xs, ho, _⟩ := h
    rcases ho.2 with ⟨e, _⟩ | ⟨g, cap, cur, e, _, hg, _⟩
    · rw [e] at hb; simp [blk] at hb
    · rw [e] at hb; simp [blk] at hb; subst hb
      exact (Array.getElem?_eq_some_iff.1 hg).1
  | row t sz es =>
    obtain ⟨_, g, arr, e, hg, _⟩ := h
    rw [e] at hb; simp [blk] at hb; subst hb
    exact (Array.getElem?_eq_some_iff.1 hg).1
  | map ks vs =>
    obtain ⟨g, arr, clk, e, hg, _⟩ := h
    rw [e] at hb; simp [blk] at hb; subst hb
    exact (Array.getElem?_eq_some_iff.1 hg).1

theorem Flat.imp {E E' : Env} {f : Nat → Value} {sz : Nat} {es : List V} (h : Flat E f sz es) (k : ∀ x v, Rel E x v → Rel E' x v) : Flat E' f sz es :=
  ⟨h.1, fun i j hi hj => k _ _ (h.2 i j hi hj)⟩
theorem RelL.imp {E E' : Env} {xs : List Value} {vs : List V} (h : RelL E xs vs) (k : ∀ x v, Rel E x v → Rel E' x v) : RelL E' xs vs := ⟨h.1, fun i hi => k _ _ (h.2 i hi)⟩

/-- The block of a slice value is the kit's 'ownBlock'. -/
theorem blk_slice (v : Value) (a n c) (h : v = .slice a n c) : blk v = v.ownBlock := by subst h; cases a <;> rfl

/-- An object whose block reads as it did. -/
theorem ObjOK.imp {E E' : Env} {id : Nat} {o : Obj} (h : ObjOK E id o) (hl : E'.loc id = E.loc id) (hb : ∀ b, blk (E.loc id) = some b → E'.w.heap[b]? = E.w.heap[b]?)
    (k : ∀ x v, Rel E x v → Rel E' x v) : ObjOK E' id o := by
  cases o with
  | var t v =>
    obtain ⟨g, arr, e, hg, hr⟩ := h
    exact ⟨g, arr, hl.trans e, by rw [hb g (by rw [e]; rfl)]; exact hg, hr.imp k⟩
  | lst t sz es =>
    obtain ⟨hz, xs, ho, hf⟩ := h
    refine ⟨hz, xs, ?_, hf.imp k⟩
    rw [hl]
    refine ⟨ho.1, ?_⟩
    rcases ho.2 with hn | ⟨g, cap, cur, e, h1, hg, h2⟩
    · exact .inl hn
    · exact .inr ⟨g, cap, cur, e, h1, by rw [hb g (by rw [e]; rfl)]; exact hg, h2⟩
  | row t sz es =>
    obtain ⟨hz, g, arr, e, hg, h1, h2, hf⟩ := h
    exact ⟨hz, g, arr, hl.trans e, by rw [hb g (by rw [e]; rfl)]; exact hg, h1, h2, hf.imp k⟩
  | map ks vs =>
    obtain ⟨g, arr, clk, e, hg, h1, h2, h3, h4⟩ := h
    exact ⟨g, arr, clk, hl.trans e, by rw [hb g (by rw [e]; rfl)]; exact hg, h1, h2, h3, fun i hi => k _ _ (h4 i hi)⟩

theorem look_eq (d : Nat) (o : Obj) (H : Heap) : look ((d, o) :: H) d = some o := by simp [look]
theorem look_one {k id : Nat} {o p : Obj} (h : look [(k, o)] id = some p) : id = k ∧ p = o := by
  by_cases e : k = id
  · subst e; simp [look] at h; exact ⟨rfl, h.symm⟩
  · simp [look, e] at h
theorem look_one' {k id : Nat} {o : Obj} (h : (look [(k, o)] id).isSome = true) : id = k := by
  obtain ⟨p, hp⟩ := Option.isSome_iff_exists.1 h
  exact (look_one hp).1
theorem look_ne {id d : Nat} (h : id ≠ d) (o : Obj) (H : Heap) : look ((d, o) :: H) id = look H id := by
  simp only [look]; rw [if_neg (fun e => h e.symm)]

section
variable {w0 : World} {O M : Nat → Prop} {H : Heap} {loc : Nat → Value} {vs : List V} {xs : List Value} {w : World}

theorem SimAt.lt (h : SimAt w0 O M H loc vs xs w) {id : Nat} {b : Nat} (hs : (look H id).isSome = true) (hb : blk (loc id) = some b) : b < w.heap.size := by
  obtain ⟨o, ho⟩ := Option.isSome_iff_exists.1 hs
  exact (h.objs id o ho).lt hb

theorem SimAt.put (h : SimAt w0 O M H loc vs xs w) (d : Nat) {x : Value} {v : V} (hr : Rel (env w O H loc) x v) : SimAt w0 O M H loc (vs.set d v) (xs.set d x) w :=
  ⟨h.vals.set d hr, h.objs, h.dist, h.own, h.ext, h.O_lt⟩
theorem SimAt.vals' (h : SimAt w0 O M H loc vs xs w) {vs' : List V} {xs' : List Value} (hr : RelL (env w O H loc) xs' vs') : SimAt w0 O M H loc vs' xs' w :=
  ⟨hr, h.objs, h.dist, h.own, h.ext, h.O_lt⟩

/-- Values keep their meaning while the world grows. -/
theorem SimAt.rel_grows (h : SimAt w0 O M H loc vs xs w) {w' : World} (hg : Grows w w') {x : Value} {v : V} (hr : Rel (env w O H loc) x v) : Rel (env w' O H loc) x v :=
  hr.mono (E := env w O H loc) (E' := env w' O H loc) (fun b hb => ⟨⟨Nat.lt_of_lt_of_le hb.1 hg.size, hb.2⟩, hg.block b hb.1 (fun e => e)⟩) (fun id o ho => ⟨o, ho, o.alike_refl, rfl⟩)
theorem SimAt.grows (h : SimAt w0 O M H loc vs xs w) {w' : World} (hg : Grows w w') : SimAt w0 O M H loc vs xs w' :=
  ⟨h.vals.imp fun _ _ hr => h.rel_grows hg hr,
   fun id o ho => (h.objs id o ho).imp rfl (fun b hb => hg.block b (h.lt (by simp [ho]) hb) (fun e => e)) (fun _ _ hr => h.rel_grows hg hr),
   h.dist, h.own, h.ext.grows hg, h.O_lt⟩

/-- A new object under a name that is free. -/
theorem SimAt.new (h : SimAt w0 O M H loc vs xs w) (d : Nat) (hd : look H d = none) {w' : World} (hg : Grows w w') (v0 : Value) (o : Obj)
    (hb : ∀ b, blk v0 = some b → w.heap.size ≤ b)
    (ho : (∀ x v, Rel (env w O H loc) x v → Rel (env w' O ((d, o) :: H) (fun k => if k = d then v0 else loc k)) x v) → ObjOK (env w' O ((d, o) :: H) (fun k => if k = d then v0 else loc k)) d o) :
    SimAt w0 O M ((d, o) :: H) (fun k => if k = d then v0 else loc k) vs xs w' ∧
      (∀ x v, Rel (env w O H loc) x v → Rel (env w' O ((d, o) :: H) (fun k => if k = d then v0 else loc k)) x v) := by
  have hrel : ∀ x v, Rel (env w O H loc) x v → Rel (env w' O ((d, o) :: H) (fun k => if k = d then v0 else loc k)) x v := by
    intro x v hr
    refine hr.mono (E := env w O H loc) (E' := env w' O ((d, o) :: H) (fun k => if k = d then v0 else loc k)) (fun b hb' => ⟨⟨Nat.lt_of_lt_of_le hb'.1 hg.size, hb'.2.1, ?_⟩, hg.block b hb'.1 (fun e => e)⟩) ?_
    · intro id hid he
      replace he : blk (if id = d then v0 else loc id) = some b := he
      by_cases hk : id = d
      · subst hk
        rw [if_pos rfl] at he
        have h1 := hb b he
        have h2 : b < w.heap.size := hb'.1
        omega
      · rw [if_neg hk] at he
        refine hb'.2.2 id ?_ he
        rw [look_ne hk] at hid; exact hid
    · intro id p hp
      have hk : id ≠ d := by rintro rfl; simp only [env] at hp; rw [hd] at hp; cases hp
      exact ⟨p, by simp only [env, look]; rw [if_neg (fun e => hk e.symm)]; exact hp, p.alike_refl, by simp [env, hk]⟩
  refine ⟨⟨h.vals.imp hrel, ?_, ?_, ?_, h.ext.grows hg, h.O_lt⟩, hrel⟩
  · intro id p hp
    by_cases hk : id = d
    · subst hk
      simp only [look, if_true] at hp
      cases hp
      exact ho hrel
    · simp only [look] at hp
      rw [if_neg (fun e => hk e.symm)] at hp
      exact (h.objs id p hp).imp (by simp [env, hk]) (fun b hb' => hg.block b (h.lt (by simp [hp]) hb') (fun e => e)) hrel
  · intro id id' b h1 h2 h3 h4
    replace h3 : blk (if id = d then v0 else loc id) = some b := h3
    replace h4 : blk (if id' = d then v0 else loc id') = some b := h4
    by_cases hk : id = d
    · by_cases hk' : id' = d
      · rw [hk, hk']
      · exfalso
        rw [if_pos hk] at h3
        rw [if_neg hk'] at h4
        have h2' : (look H id').isSome = true := by rw [look_ne hk'] at h2; exact h2
        have := h.lt h2' h4
        have := hb b h3
        omega
    · have h1' : (look H id).isSome = true := by rw [look_ne hk] at h1; exact h1
      rw [if_neg hk] at h3
      by_cases hk' : id' = d
      · exfalso
        rw [if_pos hk'] at h4
        have := h.lt h1' h3
        have := hb b h4
        omega
      · rw [if_neg hk'] at h4
        exact h.dist id id' b h1' (by rw [look_ne hk'] at h2; exact h2) h3 h4
  · intro id b h1 h2
    replace h2 : blk (if id = d then v0 else loc id) = some b := h2
    by_cases hk : id = d
    · rw [if_pos hk] at h2
      have h3 := hb b h2
      exact ⟨fun e => by have := h.O_lt b e; have := h.ext.size; omega, .inl (Nat.le_trans h.ext.size h3)⟩
    · rw [if_neg hk] at h2
      exact h.own id b (by rw [look_ne hk] at h1; exact h1) h2

/-- An object is written: its block alone has changed. 'rest': the values that stay as they are. -/
theorem SimAt.write (h : SimAt w0 O M H loc vs xs w) (d : Nat) (o o' : Obj) (ho : look H d = some o) (hal : o'.alike o) {w' : World} {g : Nat} (hg : blk (loc d) = some g)
    (hw : Ext w (fun b => b = g) w') (hnew : (∀ x v, Rel (env w O H loc) x v → Rel (env w' O (upd H d o') loc) x v) → ObjOK (env w' O (upd H d o') loc) d o') :
    SimAt w0 O M (upd H d o') loc vs xs w' ∧ (∀ x v, Rel (env w O H loc) x v → Rel (env w' O (upd H d o') loc) x v) := by
  have hds : (look H d).isSome = true := by simp [ho]
  have hs : ∀ id, (look (upd H d o') id).isSome = (look H id).isSome := by
    intro id; rw [look_upd]; by_cases hk : id = d <;> simp [hk]
  have hrel : ∀ x v, Rel (env w O H loc) x v → Rel (env w' O (upd H d o') loc) x v := by
    intro x v hr
    refine hr.mono (E := env w O H loc) (E' := env w' O (upd H d o') loc) (fun b hb' => ⟨⟨Nat.lt_of_lt_of_le hb'.1 hw.size, hb'.2.1, fun id hid => hb'.2.2 id (by rw [← hs]; exact hid)⟩, hw.block b hb'.1 (fun e => hb'.2.2 d hds (by rw [hg, e]))⟩) ?_
    intro id p hp
    have hp' : look H id = some p := hp
    show ∃ q, look (upd H d o') id = some q ∧ q.alike p ∧ loc id = loc id
    rw [look_upd]
    by_cases hk : id = d
    · subst hk; rw [if_pos rfl, hp']; rw [ho] at hp'; cases hp'; exact ⟨o', rfl, hal, rfl⟩
    · rw [if_neg hk]; exact ⟨p, hp', p.alike_refl, rfl⟩
  refine ⟨⟨h.vals.imp hrel, ?_, ?_, ?_, ?_, h.O_lt⟩, hrel⟩
  · intro id p hp
    rw [look_upd] at hp
    by_cases hk : id = d
    · subst hk; rw [if_pos rfl, ho] at hp; cases hp; exact hnew hrel
    · rw [if_neg hk] at hp
      refine (h.objs id p hp).imp rfl (fun b hb' => hw.block b (h.lt (by simp [hp]) hb') ?_) hrel
      intro e
      subst e
      exact hk (h.dist id d b (by simp [hp]) hds hb' hg)
  · intro id id' b h1 h2; rw [hs] at h1 h2; exact h.dist id id' b h1 h2
  · intro id b h1; rw [hs] at h1; exact h.own id b h1
  · refine h.ext.trans hw ?_
    rintro b rfl hb
    exact (h.own d b hds hg).2.resolve_left (by omega)
end
end Go.AM
