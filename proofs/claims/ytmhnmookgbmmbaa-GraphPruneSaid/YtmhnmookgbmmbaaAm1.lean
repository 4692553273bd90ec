/- The abstract machine, part 1: abstract values ('V'), what they say of concrete values in a world ('Rel'), objects of the call's own ('Obj'). Own work; imports the kit's laws only. -/
import Derived.Calls
import Derived.Orders
import Derived.Laws.AppendOwn
import Derived.Laws.OwnMore
import Derived.Laws.MakeOwn
import Derived.Laws.Slices
import Derived.Laws.Rows
import Derived.Scope
set_option linter.unusedVariables false
set_option linter.unusedSimpArgs false
namespace Go.AM

/-- Abstract values. -/
inductive V where
  | sc (x : Value)
  | any
  | junk
  | agg (cs : List V)
  | tup (cs : List V)
  | sl (full : Bool) (es : List V)
  | pt (v : V)
  | fn (f : FuncId) (caps : List V)
  | own (id : Nat)
  | ptr (id i fo : Nat)
  | vw (id off len cap : Nat)
  | mp (id : Nat)
  | dmp (ks : List Value) (vs : List V)
  deriving Inhabited

namespace V
@[reducible] def i (n : Int) : V := .sc (.int .i64 n)
@[reducible] def b (t : Bool) : V := .sc (.bool t)
def cells : V → List V
  | .agg cs => cs
  | v => [v]
/-- The value of one cell. -/
def one : V → Bool
  | .sc x => x.oneCell'
  | .agg _ | .tup _ | .any => false
  | _ => true
def okCells (v : V) : Bool := v.cells.all one
mutual
/-- No object of the call's own is named. -/
def data : V → Bool
  | .sc _ | .any | .junk => true
  | .agg cs => dataL cs
  | .tup cs => dataL cs
  | .sl _ es => dataL es
  | .pt v => data v
  | .fn _ caps => dataL caps
  | .dmp _ vs => dataL vs
  | .own _ | .ptr .. | .vw .. | .mp _ => false
def dataL : List V → Bool
  | [] => true
  | v :: vs => data v && dataL vs
end
mutual
/-- The views of an object become unknown cells. Data is left as it is. -/
def kill (d : Nat) : V → V
  | .agg cs => .agg (killL d cs)
  | .tup cs => .tup (killL d cs)
  | .fn f caps => .fn f (killL d caps)
  | .own id => if id = d then .junk else .own id
  | .ptr id i fo => if id = d then .junk else .ptr id i fo
  | .vw id off len cap => if id = d then .junk else .vw id off len cap
  | .mp id => if id = d then .junk else .mp id
  | .dmp ks vs => .dmp ks vs
  | .sc x => .sc x
  | .any => .any
  | .junk => .junk
  | .sl f es => .sl f es
  | .pt v => .pt v
def killL (d : Nat) : List V → List V
  | [] => []
  | v :: vs => kill d v :: killL d vs
end
mutual
/-- The whole views of an object become data. -/
def frz (d : Nat) (x z : V) : V → V
  | .agg cs => .agg (frzL d x z cs)
  | .tup cs => .tup (frzL d x z cs)
  | .fn f caps => .fn f (frzL d x z caps)
  | .own id => if id = d then x else .own id
  | .ptr id i fo => if id = d then (if i = 0 ∧ fo = 0 then z else .junk) else .ptr id i fo
  | .vw id off len cap => if id = d then .junk else .vw id off len cap
  | .mp id => if id = d then z else .mp id
  | .dmp ks vs => .dmp ks vs
  | .sc y => .sc y
  | .any => .any
  | .junk => .junk
  | .sl f es => .sl f es
  | .pt v => .pt v
def frzL (d : Nat) (x z : V) : List V → List V
  | [] => []
  | v :: vs => frz d x z v :: frzL d x z vs
end
/-- The value of a part: 'n' cells from cell 'fo' on. -/
def sub (ag : Bool) (fo n : Nat) (v : V) : V := if ag then .agg ((v.cells.drop fo).take n) else v.cells.getD fo .any
/-- A part is of the kind that its type says. -/
def fits (ag : Bool) (n : Nat) (u : V) : Prop := if ag then u.cells.length = n else (n = 1 ∧ u.cells = [u])
theorem fits.len {ag : Bool} {n : Nat} {u : V} (h : fits ag n u) : u.cells.length = n := by
  unfold fits at h
  cases ag with
  | true => simpa using h
  | false =>
    have h' : n = 1 ∧ u.cells = [u] := by simpa using h
    rw [h'.2, h'.1]; rfl
theorem dataL_iff {vs : List V} : dataL vs = true ↔ ∀ v ∈ vs, data v = true := by
  induction vs with
  | nil => simp [dataL]
  | cons v vs ih => simp [dataL, ih]
theorem dataL_getD {vs : List V} (h : dataL vs = true) (i : Nat) : data (vs.getD i .any) = true := by
  by_cases hi : i < vs.length
  · rw [List.getD_eq_getElem?_getD, List.getElem?_eq_getElem hi]
    exact dataL_iff.1 h _ (List.getElem_mem hi)
  · rw [List.getD_eq_getElem?_getD, List.getElem?_eq_none (by omega)]; rfl
theorem dataL_append {a c : List V} : dataL (a ++ c) = (dataL a && dataL c) := by
  induction a with
  | nil => simp [dataL]
  | cons v vs ih => simp [dataL, ih, Bool.and_assoc]
theorem killL_length (d : Nat) (vs : List V) : (killL d vs).length = vs.length := by
  induction vs with
  | nil => rfl
  | cons v vs ih => simp [killL, ih]
theorem killL_getD (d : Nat) (vs : List V) (i : Nat) : (killL d vs).getD i .any = kill d (vs.getD i .any) := by
  induction vs generalizing i with
  | nil => simp [killL, kill]
  | cons v vs ih => cases i <;> simp [killL, ih] <;> simpa using ih _
theorem frzL_length (d : Nat) (x z : V) (vs : List V) : (frzL d x z vs).length = vs.length := by
  induction vs with
  | nil => rfl
  | cons v vs ih => simp [frzL, ih]
theorem frzL_getD (d : Nat) (x z : V) (vs : List V) (i : Nat) : (frzL d x z vs).getD i .any = frz d x z (vs.getD i .any) := by
  induction vs generalizing i with
  | nil => simp [frzL, frz]
  | cons v vs ih => cases i <;> simp [frzL, ih] <;> simpa using ih _
theorem cells_kill (d : Nat) (v : V) : (kill d v).cells = killL d v.cells := by
  cases v with
  | own id => by_cases h : id = d <;> simp [kill, cells, killL, h]
  | ptr id _ _ => by_cases h : id = d <;> simp [kill, cells, killL, h]
  | vw id _ _ _ => by_cases h : id = d <;> simp [kill, cells, killL, h]
  | mp id => by_cases h : id = d <;> simp [kill, cells, killL, h]
  | _ => simp only [kill, cells, killL]
theorem cells_frz (d : Nat) (x z v : V) (hx : x.cells = [x]) (hz : z.cells = [z]) : (frz d x z v).cells = frzL d x z v.cells := by
  cases v with
  | own id =>
    have e : (V.own id).cells = [V.own id] := rfl
    by_cases h : id = d <;> simp [frz, frzL, h, hx, e] <;> simp [cells, frzL, frz, h]
  | ptr id i fo =>
    have e : (V.ptr id i fo).cells = [V.ptr id i fo] := rfl
    have e2 : V.junk.cells = [V.junk] := rfl
    by_cases h : id = d <;> by_cases k : i = 0 ∧ fo = 0 <;> simp [frz, frzL, h, k, hz, e, e2] <;> simp [cells, frzL, frz, h, k]
  | vw id _ _ _ => by_cases h : id = d <;> simp [frz, cells, frzL, h]
  | mp id =>
    have e : (V.mp id).cells = [V.mp id] := rfl
    by_cases h : id = d <;> simp [frz, frzL, h, hz, e] <;> simp [cells, frzL, frz, h]
  | _ => simp only [frz, cells, frzL]
theorem data_cells {v : V} (h : data v = true) : dataL v.cells = true := by
  cases v <;> simp_all [cells, data, dataL]
end V

/-- Objects of the call's own. 'lst': a list that is grown by append; 'row': an array of fixed length with views; 'var': a variable; 'map': a map. -/
inductive Obj where
  | var (t : TypeId) (v : V)
  | lst (t : TypeId) (sz : Nat) (es : List V)
  | row (t : TypeId) (sz : Nat) (es : List V)
  | map (ks : List Value) (vs : List V)
  deriving Inhabited

abbrev Heap := List (Nat × Obj)
def look (H : Heap) (id : Nat) : Option Obj := match H with
  | [] => none
  | (k, o) :: H => if k = id then some o else look H id
/-- All entries of 'id' become 'o'. -/
def upd (H : Heap) (id : Nat) (o : Obj) : Heap := match H with
  | [] => []
  | (k, p) :: H => if k = id then (k, o) :: upd H id o else (k, p) :: upd H id o
def del (H : Heap) (id : Nat) : Heap := match H with
  | [] => []
  | (k, p) :: H => if k = id then del H id else (k, p) :: del H id
theorem look_upd (H : Heap) (id : Nat) (o : Obj) (k : Nat) : look (upd H id o) k = if k = id then (look H k).map (fun _ => o) else look H k := by
  induction H with
  | nil => simp [upd, look]
  | cons e H ih =>
    obtain ⟨j, p⟩ := e
    by_cases h : j = id
    · subst h
      by_cases hk : j = k
      · subst hk; simp [upd, look]
      · have hk' : ¬ k = j := fun e => hk e.symm
        simp [upd, look, hk, hk', ih]
    · by_cases hk : j = k
      · subst hk; simp [upd, look, h]
      · simp [upd, look, h, hk, ih]
theorem look_del (H : Heap) (id k : Nat) : look (del H id) k = if k = id then none else look H k := by
  induction H with
  | nil => simp [del, look]
  | cons e H ih =>
    obtain ⟨j, p⟩ := e
    by_cases h : j = id
    · subst h
      by_cases hk : k = j
      · subst hk; simp [del, ih]
      · simp [del, look, ih, hk]
        intro e
        exact absurd e.symm hk
    · by_cases hk : j = k
      · subst hk; simp [del, look, h]
      · simp [del, look, h, hk, ih]
def Obj.sz : Obj → Nat
  | .var _ _ => 0
  | .lst _ sz _ => sz
  | .row _ sz _ => sz
  | .map .. => 0
/-- The same kind, of the same type. -/
def Obj.alike : Obj → Obj → Prop
  | .var t _, .var u _ => t = u
  | .lst t s _, .lst u r _ => t = u ∧ s = r
  | .row t s es, .row u r fs => t = u ∧ s = r ∧ es.length = fs.length
  | .map .., .map .. => True
  | _, _ => False
theorem Obj.alike_refl (o : Obj) : o.alike o := by cases o <;> simp [Obj.alike]
theorem Obj.alike_sz {o p : Obj} (h : o.alike p) : o.sz = p.sz := by cases o <;> cases p <;> simp_all [Obj.alike, Obj.sz]
theorem Obj.alike_trans {o p q : Obj} (h : o.alike p) (k : p.alike q) : o.alike q := by
  cases o <;> cases p <;> cases q <;> simp_all [Obj.alike]

/-- The block of an object's concrete value. -/
def blk : Value → Option Nat
  | .slice (some a) _ _ => some a.block
  | .pointer (some a) => some a.block
  | .map r => r
  | _ => none

/-- What abstract values are held against. 'F': blocks that hold data. -/
structure Env where
  w : World
  F : Nat → Prop
  obj : Nat → Option Obj
  loc : Nat → Value

def isLst : Obj → Bool | .lst .. => true | _ => false
def isRow : Obj → Bool | .row .. => true | _ => false
def isMap : Obj → Bool | .map .. => true | _ => false

inductive Rel (E : Env) : Value → V → Prop
  | sc (x : Value) : Rel E x (.sc x)
  | any (x : Value) : Rel E x .any
  | junk (x : Value) : x.oneCell' = true → Rel E x .junk
  | agg (arr : Array Value) (cs : List V) : arr.size = cs.length → (∀ i, i < cs.length → Rel E (arr.getD i undef) (cs.getD i .any)) → Rel E (.agg arr) (.agg cs)
  | tup (arr : Array Value) (cs : List V) : arr.size = cs.length → (∀ i, i < cs.length → Rel E (arr.getD i undef) (cs.getD i .any)) → Rel E (.tuple arr) (.tup cs)
  | nil (full : Bool) (a : Option Addr) (c : Nat) : (full = true → c = 0) → c ≤ maxLen → Rel E (.slice a 0 c) (.sl full [])
  | sl (full : Bool) (es : List V) (g off c sz : Nat) (f : Nat → Value) : V.dataL es = true → es.length ≤ c → c ≤ maxLen → (full = true → c = es.length) → E.F g → 0 < sz →
      (∀ i, i < es.length → (es.getD i .any).cells.length = sz) → (∀ k, k < es.length * sz → E.w.cell? ⟨g, off + k, none⟩ = some (f k)) →
      (∀ i j, i < es.length → j < sz → Rel E (f (i * sz + j)) ((es.getD i .any).cells.getD j .any)) →
      Rel E (.slice (some ⟨g, off, none⟩) es.length c) (.sl full es)
  | pt (v : V) (g off : Nat) (f : Nat → Value) : V.data v = true → E.F g → (∀ k, k < v.cells.length → E.w.cell? ⟨g, off + k, none⟩ = some (f k)) →
      (∀ j, j < v.cells.length → Rel E (f j) (v.cells.getD j .any)) → Rel E (.pointer (some ⟨g, off, none⟩)) (.pt v)
  | fn (f : FuncId) (arr : Array Value) (caps : List V) : arr.size = caps.length → (∀ i, i < caps.length → Rel E (arr.getD i undef) (caps.getD i .any)) →
      Rel E (.func (.func f) #[] arr) (.fn f caps)
  | own (id : Nat) (o : Obj) : E.obj id = some o → isLst o = true → (∃ a n c, E.loc id = .slice a n c) → Rel E (E.loc id) (.own id)
  | ptr (id i fo : Nat) (o : Obj) (g : Nat) : E.obj id = some o → blk (E.loc id) = some g → Rel E (.pointer (some ⟨g, i * o.sz + fo, none⟩)) (.ptr id i fo)
  | vw (id off len cap : Nat) (o : Obj) (g : Nat) : E.obj id = some o → isRow o = true → blk (E.loc id) = some g → len ≤ cap → Rel E (.slice (some ⟨g, off * o.sz, none⟩) len cap) (.vw id off len cap)
  | mp (id : Nat) (o : Obj) : E.obj id = some o → isMap o = true → (∃ r, E.loc id = .map r) → Rel E (E.loc id) (.mp id)
  | dnil : Rel E (.map none) (.dmp [] [])
  | dmp (ks : List Value) (vs : List V) (g : Nat) (arr : Array MapEntry) (clk : Nat) : V.dataL vs = true → E.F g → E.w.heap[g]? = some (.map arr clk) → arr.size = ks.length → vs.length = ks.length →
      (∀ i, i < ks.length → (arr.getD i default).key = ks.getD i undef) → (∀ i, i < ks.length → Rel E (arr.getD i default).val (vs.getD i .any)) → Rel E (.map (some g)) (.dmp ks vs)

/-- Lists of values. -/
def RelL (E : Env) (xs : List Value) (vs : List V) : Prop := xs.length = vs.length ∧ ∀ i, i < vs.length → Rel E (xs.getD i undef) (vs.getD i .any)

theorem RelL.nil (E : Env) : RelL E [] [] := ⟨rfl, by simp⟩
theorem RelL.cons {E : Env} {x : Value} {v : V} {xs : List Value} {vs : List V} (h : Rel E x v) (hs : RelL E xs vs) : RelL E (x :: xs) (v :: vs) := by
  refine ⟨by simp [hs.1], fun i hi => ?_⟩
  cases i with
  | zero => simpa using h
  | succ i => simpa using hs.2 i (by simpa using hi)
theorem RelL.uncons {E : Env} {x : Value} {v : V} {xs : List Value} {vs : List V} (h : RelL E (x :: xs) (v :: vs)) : Rel E x v ∧ RelL E xs vs :=
  ⟨by simpa using h.2 0 (by simp), by simpa using h.1, fun i hi => by simpa using h.2 (i + 1) (by simpa using hi)⟩
theorem RelL.getD {E : Env} {xs : List Value} {vs : List V} (h : RelL E xs vs) (i : Nat) : Rel E (xs.getD i undef) (vs.getD i .any) := by
  by_cases hi : i < vs.length
  · exact h.2 i hi
  · rw [List.getD_eq_getElem?_getD (l := vs), List.getElem?_eq_none (by omega)]; exact .any _
theorem RelL.append {E : Env} {xs ys : List Value} {vs us : List V} (h : RelL E xs vs) (k : RelL E ys us) : RelL E (xs ++ ys) (vs ++ us) := by
  refine ⟨by simp [h.1, k.1], fun i hi => ?_⟩
  by_cases hl : i < vs.length
  · have := h.2 i hl
    rw [List.getD_eq_getElem?_getD, List.getD_eq_getElem?_getD, List.getElem?_append_left (by rw [h.1]; exact hl), List.getElem?_append_left hl, ← List.getD_eq_getElem?_getD, ← List.getD_eq_getElem?_getD]
    exact this
  · have hl' : vs.length ≤ i := by omega
    have := k.2 (i - vs.length) (by simp at hi; omega)
    rw [List.getD_eq_getElem?_getD, List.getD_eq_getElem?_getD, List.getElem?_append_right (by rw [h.1]; exact hl'), List.getElem?_append_right hl', ← List.getD_eq_getElem?_getD, ← List.getD_eq_getElem?_getD, h.1]
    exact this
theorem RelL.set {E : Env} {xs : List Value} {vs : List V} (h : RelL E xs vs) (d : Nat) {x : Value} {v : V} (hv : Rel E x v) : RelL E (xs.set d x) (vs.set d v) := by
  refine ⟨by simp [h.1], fun i hi => ?_⟩
  simp only [List.length_set] at hi
  by_cases hd : d = i
  · subst hd
    simp [List.getD_eq_getElem?_getD, List.getElem?_set, hi, h.1, hv]
  · simpa [List.getD_eq_getElem?_getD, List.getElem?_set, hd] using h.2 i hi

theorem Rel.agg_iff {E : Env} {x : Value} {cs : List V} : Rel E x (.agg cs) ↔ ∃ arr : Array Value, x = .agg arr ∧ RelL E arr.toList cs := by
  constructor
  · intro h
    cases h with
    | agg arr _ h1 h2 => exact ⟨arr, rfl, by simpa using h1, fun i hi => by simpa [Array.getD_eq_getD_getElem?, List.getD_eq_getElem?_getD] using h2 i hi⟩
  · rintro ⟨arr, rfl, h1, h2⟩
    exact .agg arr cs (by simpa using h1) fun i hi => by simpa [Array.getD_eq_getD_getElem?, List.getD_eq_getElem?_getD] using h2 i hi
theorem Rel.tup_iff {E : Env} {x : Value} {cs : List V} : Rel E x (.tup cs) ↔ ∃ arr : Array Value, x = .tuple arr ∧ RelL E arr.toList cs := by
  constructor
  · intro h
    cases h with
    | tup arr _ h1 h2 => exact ⟨arr, rfl, by simpa using h1, fun i hi => by simpa [Array.getD_eq_getD_getElem?, List.getD_eq_getElem?_getD] using h2 i hi⟩
  · rintro ⟨arr, rfl, h1, h2⟩
    exact .tup arr cs (by simpa using h1) fun i hi => by simpa [Array.getD_eq_getD_getElem?, List.getD_eq_getElem?_getD] using h2 i hi
theorem Rel.fn_iff {E : Env} {x : Value} {f : FuncId} {cs : List V} : Rel E x (.fn f cs) ↔ ∃ arr : Array Value, x = .func (.func f) #[] arr ∧ RelL E arr.toList cs := by
  constructor
  · intro h
    cases h with
    | fn _ arr _ h1 h2 => exact ⟨arr, rfl, by simpa using h1, fun i hi => by simpa [Array.getD_eq_getD_getElem?, List.getD_eq_getElem?_getD] using h2 i hi⟩
  · rintro ⟨arr, rfl, h1, h2⟩
    exact .fn f arr cs (by simpa using h1) fun i hi => by simpa [Array.getD_eq_getD_getElem?, List.getD_eq_getElem?_getD] using h2 i hi
theorem Rel.sc_iff {E : Env} {x y : Value} : Rel E x (.sc y) ↔ x = y := ⟨fun h => by cases h; rfl, fun h => h ▸ .sc _⟩

/-- The cells of related values are related. -/
theorem Rel.cells {E : Env} {x : Value} {v : V} (h : Rel E x v) (hv : v.okCells = true) : RelL E x.cells.toList v.cells := by
  cases h with
  | agg arr cs h1 h2 => exact (Rel.agg_iff.1 (.agg arr cs h1 h2)).elim fun a ⟨e, h⟩ => by cases e; exact h
  | sc x =>
    cases x <;> simp_all [V.okCells, V.cells, V.one, Value.oneCell', Value.cells] <;> exact .cons (.sc _) (.nil _)
  | any => simp [V.okCells, V.cells, V.one] at hv
  | tup => simp [V.okCells, V.cells, V.one] at hv
  | junk x hx => cases x <;> simp_all [Value.oneCell', Value.cells, V.cells] <;> exact .cons (.junk _ rfl) (.nil _)
  | nil full a c h1 h2 => exact .cons (.nil full a c h1 h2) (.nil _)
  | sl full es g off c sz f a1 a2 a3 a4 a5 a6 a7 a8 a9 => exact .cons (.sl full es g off c sz f a1 a2 a3 a4 a5 a6 a7 a8 a9) (.nil _)
  | pt v g off f a1 a2 a3 a4 => exact .cons (.pt v g off f a1 a2 a3 a4) (.nil _)
  | fn f arr caps a1 a2 => exact .cons (.fn f arr caps a1 a2) (.nil _)
  | own id o a1 a2 a3 =>
    have hr : Rel E (E.loc id) (.own id) := .own id o a1 a2 a3
    obtain ⟨a, n, c, e⟩ := a3
    rw [e] at hr ⊢
    exact .cons hr (.nil _)
  | ptr id i fo o g a1 a2 => exact .cons (.ptr id i fo o g a1 a2) (.nil _)
  | vw id off len cap o g a1 a2 a3 a4 => exact .cons (.vw id off len cap o g a1 a2 a3 a4) (.nil _)
  | mp id o a1 a2 a3 =>
    have hr : Rel E (E.loc id) (.mp id) := .mp id o a1 a2 a3
    obtain ⟨r, e⟩ := a3
    rw [e] at hr ⊢
    exact .cons hr (.nil _)
  | dnil => exact .cons .dnil (.nil _)
  | dmp ks vs g arr clk a1 a2 a3 a4 a5 a6 a7 => exact .cons (.dmp ks vs g arr clk a1 a2 a3 a4 a5 a6 a7) (.nil _)
end Go.AM
