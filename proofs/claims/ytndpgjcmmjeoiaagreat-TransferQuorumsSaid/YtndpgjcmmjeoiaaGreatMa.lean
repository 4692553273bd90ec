/- The abstract machine: Am1, Am2, Am3, Am4, Am5, Am6. Own work; imports the kit's laws only. -/
import Derived.Calls
import Derived.Orders
import Derived.Laws.AppendOwn
import Derived.Laws.OwnMore
import Derived.Laws.MakeOwn
import Derived.Laws.Slices
import Derived.Laws.Rows
import Derived.Scope
import Derived.WideLaws
import Derived.Laws.StructEq
import Derived.Laws.Small
set_option linter.unusedVariables false
set_option linter.unusedSimpArgs false
namespace Go.AM
inductive V where
  | sc (x : Value)
  | any
  | junk
  | agg (cs : List V)
  | tup (cs : List V)
  | sl (full : Bool) (es : List V)
  | pt (v : V)
  | fn (f : FuncId) (caps : List V)
  | own (id : Nat)
  | ptr (id i fo : Nat)
  | vw (id off len cap : Nat)
  | mp (id : Nat)
  | dmp (ks : List Value) (vs : List V)
  deriving Inhabited
namespace V
@[reducible] def i (n : Int) : V := .sc (.int .i64 n)
@[reducible] def b (t : Bool) : V := .sc (.bool t)
def cells : V → List V
  | .agg cs => cs
  | v => [v]
def one : V → Bool
  | .sc x => x.oneCell'
  | .agg _ | .tup _ | .any => false
  | _ => true
def okCells (v : V) : Bool := v.cells.all one
mutual
/-- No object of the call's own is named. -/
def data : V → Bool
  | .sc _ | .any | .junk => true
  | .agg cs => dataL cs
  | .tup cs => dataL cs
  | .sl _ es => dataL es
  | .pt v => data v
  | .fn _ caps => dataL caps
  | .dmp _ vs => dataL vs
  | .own _ | .ptr .. | .vw .. | .mp _ => false
def dataL : List V → Bool
  | [] => true
  | v :: vs => data v && dataL vs
end
mutual
/-- The views of an object become unknown cells. Data is left as it is. -/
def kill (d : Nat) : V → V
  | .agg cs => .agg (killL d cs)
  | .tup cs => .tup (killL d cs)
  | .fn f caps => .fn f (killL d caps)
  | .own id => if id = d then .junk else .own id
  | .ptr id i fo => if id = d then .junk else .ptr id i fo
  | .vw id off len cap => if id = d then .junk else .vw id off len cap
  | .mp id => if id = d then .junk else .mp id
  | .dmp ks vs => .dmp ks vs
  | .sc x => .sc x
  | .any => .any
  | .junk => .junk
  | .sl f es => .sl f es
  | .pt v => .pt v
def killL (d : Nat) : List V → List V
  | [] => []
  | v :: vs => kill d v :: killL d vs
end
mutual
/-- The whole views of an object become data. -/
def frz (d : Nat) (x z : V) : V → V
  | .agg cs => .agg (frzL d x z cs)
  | .tup cs => .tup (frzL d x z cs)
  | .fn f caps => .fn f (frzL d x z caps)
  | .own id => if id = d then x else .own id
  | .ptr id i fo => if id = d then (if i = 0 ∧ fo = 0 then z else .junk) else .ptr id i fo
  | .vw id off len cap => if id = d then .junk else .vw id off len cap
  | .mp id => if id = d then z else .mp id
  | .dmp ks vs => .dmp ks vs
  | .sc y => .sc y
  | .any => .any
  | .junk => .junk
  | .sl f es => .sl f es
  | .pt v => .pt v
def frzL (d : Nat) (x z : V) : List V → List V
  | [] => []
  | v :: vs => frz d x z v :: frzL d x z vs
end
def sub (ag : Bool) (fo n : Nat) (v : V) : V := if ag then .agg ((v.cells.drop fo).take n) else v.cells.getD fo .any
def fits (ag : Bool) (n : Nat) (u : V) : Prop := if ag then u.cells.length = n else (n = 1 ∧ u.cells = [u])
theorem fits.len {ag : Bool} {n : Nat} {u : V} (h : fits ag n u) : u.cells.length = n := by
  unfold fits at h
  cases ag with
  | true => simpa using h
  | false =>
    have h' : n = 1 ∧ u.cells = [u] := by simpa using h
    rw [h'.2, h'.1]; rfl
theorem dataL_iff {vs : List V} : dataL vs = true ↔ ∀ v ∈ vs, data v = true := by
  induction vs with
  | nil => simp [dataL]
  | cons v vs ih => simp [dataL, ih]
theorem dataL_getD {vs : List V} (h : dataL vs = true) (i : Nat) : data (vs.getD i .any) = true := by
  by_cases hi : i < vs.length
  · rw [List.getD_eq_getElem?_getD, List.getElem?_eq_getElem hi]
    exact dataL_iff.1 h _ (List.getElem_mem hi)
  · rw [List.getD_eq_getElem?_getD, List.getElem?_eq_none (by omega)]; rfl
theorem dataL_append {a c : List V} : dataL (a ++ c) = (dataL a && dataL c) := by
  induction a with
  | nil => simp [dataL]
  | cons v vs ih => simp [dataL, ih, Bool.and_assoc]
theorem killL_length (d : Nat) (vs : List V) : (killL d vs).length = vs.length := by
  induction vs with
  | nil => rfl
  | cons v vs ih => simp [killL, ih]
theorem killL_getD (d : Nat) (vs : List V) (i : Nat) : (killL d vs).getD i .any = kill d (vs.getD i .any) := by
  induction vs generalizing i with
  | nil => simp [killL, kill]
  | cons v vs ih => cases i <;> simp [killL, ih] <;> simpa using ih _
theorem frzL_length (d : Nat) (x z : V) (vs : List V) : (frzL d x z vs).length = vs.length := by
  induction vs with
  | nil => rfl
  | cons v vs ih => simp [frzL, ih]
theorem frzL_getD (d : Nat) (x z : V) (vs : List V) (i : Nat) : (frzL d x z vs).getD i .any = frz d x z (vs.getD i .any) := by
  induction vs generalizing i with
  | nil => simp [frzL, frz]
  | cons v vs ih => cases i <;> simp [frzL, ih] <;> simpa using ih _
theorem cells_kill (d : Nat) (v : V) : (kill d v).cells = killL d v.cells := by
  cases v with
  | own id => by_cases h : id = d <;> simp [kill, cells, killL, h]
  | ptr id _ _ => by_cases h : id = d <;> simp [kill, cells, killL, h]
  | vw id _ _ _ => by_cases h : id = d <;> simp [kill, cells, killL, h]
  | mp id => by_cases h : id = d <;> simp [kill, cells, killL, h]
  | _ => simp only [kill, cells, killL]
theorem cells_frz (d : Nat) (x z v : V) (hx : x.cells = [x]) (hz : z.cells = [z]) : (frz d x z v).cells = frzL d x z v.cells := by
  cases v with
  | own id =>
    have e : (V.own id).cells = [V.own id] := rfl
    by_cases h : id = d <;> simp [frz, frzL, h, hx, e] <;> simp [cells, frzL, frz, h]
  | ptr id i fo =>
    have e : (V.ptr id i fo).cells = [V.ptr id i fo] := rfl
    have e2 : V.junk.cells = [V.junk] := rfl
    by_cases h : id = d <;> by_cases k : i = 0 ∧ fo = 0 <;> simp [frz, frzL, h, k, hz, e, e2] <;> simp [cells, frzL, frz, h, k]
  | vw id _ _ _ => by_cases h : id = d <;> simp [frz, cells, frzL, h]
  | mp id =>
    have e : (V.mp id).cells = [V.mp id] := rfl
    by_cases h : id = d <;> simp [frz, frzL, h, hz, e] <;> simp [cells, frzL, frz, h]
  | _ => simp only [frz, cells, frzL]
theorem data_cells {v : V} (h : data v = true) : dataL v.cells = true := by
  cases v <;> simp_all [cells, data, dataL]
end V
inductive Obj where
  | var (t : TypeId) (v : V)
  | lst (t : TypeId) (sz : Nat) (es : List V)
  | row (t : TypeId) (sz : Nat) (es : List V)
  | map (ks : List Value) (vs : List V)
  | gho (x : Value) (v : V)
  deriving Inhabited
abbrev Heap := List (Nat × Obj)
def look (H : Heap) (id : Nat) : Option Obj := match H with
  | [] => none
  | (k, o) :: H => if k = id then some o else look H id
def upd (H : Heap) (id : Nat) (o : Obj) : Heap := match H with
  | [] => []
  | (k, p) :: H => if k = id then (k, o) :: upd H id o else (k, p) :: upd H id o
theorem look_upd (H : Heap) (id : Nat) (o : Obj) (k : Nat) : look (upd H id o) k = if k = id then (look H k).map (fun _ => o) else look H k := by
  induction H with
  | nil => simp [upd, look]
  | cons e H ih =>
    obtain ⟨j, p⟩ := e
    by_cases h : j = id
    · subst h
      by_cases hk : j = k
      · subst hk; simp [upd, look]
      · have hk' : ¬ k = j := fun e => hk e.symm
        simp [upd, look, hk, hk', ih]
    · by_cases hk : j = k
      · subst hk; simp [upd, look, h]
      · simp [upd, look, h, hk, ih]
def Obj.sz : Obj → Nat
  | .var _ _ => 0
  | .lst _ sz _ => sz
  | .row _ sz _ => sz
  | .map .. => 0
  | .gho .. => 0
def Obj.alike : Obj → Obj → Prop
  | .var t _, .var u _ => t = u
  | .lst t s _, .lst u r _ => t = u ∧ s = r
  | .row t s es, .row u r fs => t = u ∧ s = r ∧ es.length = fs.length
  | .map .., .map .. => True
  | .gho x _, .gho y _ => x = y
  | _, _ => False
theorem Obj.alike_refl (o : Obj) : o.alike o := by cases o <;> simp [Obj.alike]
theorem Obj.alike_sz {o p : Obj} (h : o.alike p) : o.sz = p.sz := by cases o <;> cases p <;> simp_all [Obj.alike, Obj.sz]
def blk : Value → Option Nat
  | .slice (some a) _ _ => some a.block
  | .pointer (some a) => some a.block
  | .map r => r
  | _ => none
structure Env where
  w : World
  F : Nat → Prop
  obj : Nat → Option Obj
  loc : Nat → Value
def isLst : Obj → Bool | .lst .. => true | _ => false
def isRow : Obj → Bool | .row .. => true | _ => false
def isMap : Obj → Bool | .map .. => true | _ => false
inductive Rel (E : Env) : Value → V → Prop
  | sc (x : Value) : Rel E x (.sc x)
  | any (x : Value) : Rel E x .any
  | junk (x : Value) : x.oneCell' = true → Rel E x .junk
  | agg (arr : Array Value) (cs : List V) : arr.size = cs.length → (∀ i, i < cs.length → Rel E (arr.getD i undef) (cs.getD i .any)) → Rel E (.agg arr) (.agg cs)
  | tup (arr : Array Value) (cs : List V) : arr.size = cs.length → (∀ i, i < cs.length → Rel E (arr.getD i undef) (cs.getD i .any)) → Rel E (.tuple arr) (.tup cs)
  | nil (full : Bool) (a : Option Addr) (c : Nat) : (full = true → c = 0) → c ≤ maxLen → Rel E (.slice a 0 c) (.sl full [])
  | sl (full : Bool) (es : List V) (g off c sz : Nat) (f : Nat → Value) : V.dataL es = true → es.length ≤ c → c ≤ maxLen → (full = true → c = es.length) → E.F g → 0 < sz →
      (∀ i, i < es.length → (es.getD i .any).cells.length = sz) → (∀ k, k < es.length * sz → E.w.cell? ⟨g, off + k, none⟩ = some (f k)) →
      (∀ i j, i < es.length → j < sz → Rel E (f (i * sz + j)) ((es.getD i .any).cells.getD j .any)) →
      Rel E (.slice (some ⟨g, off, none⟩) es.length c) (.sl full es)
  | pt (v : V) (g off : Nat) (f : Nat → Value) : V.data v = true → E.F g → (∀ k, k < v.cells.length → E.w.cell? ⟨g, off + k, none⟩ = some (f k)) →
      (∀ j, j < v.cells.length → Rel E (f j) (v.cells.getD j .any)) → Rel E (.pointer (some ⟨g, off, none⟩)) (.pt v)
  | fn (f : FuncId) (arr : Array Value) (caps : List V) : arr.size = caps.length → (∀ i, i < caps.length → Rel E (arr.getD i undef) (caps.getD i .any)) →
      Rel E (.func (.func f) #[] arr) (.fn f caps)
  | own (id : Nat) (o : Obj) : E.obj id = some o → isLst o = true → (∃ a n c, E.loc id = .slice a n c) → Rel E (E.loc id) (.own id)
  | ptr (id i fo : Nat) (o : Obj) (g : Nat) : E.obj id = some o → blk (E.loc id) = some g → Rel E (.pointer (some ⟨g, i * o.sz + fo, none⟩)) (.ptr id i fo)
  | vw (id off len cap : Nat) (o : Obj) (g : Nat) : E.obj id = some o → isRow o = true → blk (E.loc id) = some g → len ≤ cap → Rel E (.slice (some ⟨g, off * o.sz, none⟩) len cap) (.vw id off len cap)
  | mp (id : Nat) (o : Obj) : E.obj id = some o → isMap o = true → (∃ r, E.loc id = .map r) → Rel E (E.loc id) (.mp id)
  | dnil : Rel E (.map none) (.dmp [] [])
  | dmp (ks : List Value) (vs : List V) (g : Nat) (arr : Array MapEntry) (clk : Nat) : V.dataL vs = true → E.F g → E.w.heap[g]? = some (.map arr clk) → arr.size = ks.length → vs.length = ks.length →
      (∀ i, i < ks.length → (arr.getD i default).key = ks.getD i undef) → (∀ i, i < ks.length → Rel E (arr.getD i default).val (vs.getD i .any)) → Rel E (.map (some g)) (.dmp ks vs)
def RelL (E : Env) (xs : List Value) (vs : List V) : Prop := xs.length = vs.length ∧ ∀ i, i < vs.length → Rel E (xs.getD i undef) (vs.getD i .any)
theorem RelL.nil (E : Env) : RelL E [] [] := ⟨rfl, by simp⟩
theorem RelL.cons {E : Env} {x : Value} {v : V} {xs : List Value} {vs : List V} (h : Rel E x v) (hs : RelL E xs vs) : RelL E (x :: xs) (v :: vs) := by
  refine ⟨by simp [hs.1], fun i hi => ?_⟩
  cases i with
  | zero => simpa using h
  | succ i => simpa using hs.2 i (by simpa using hi)
theorem RelL.uncons {E : Env} {x : Value} {v : V} {xs : List Value} {vs : List V} (h : RelL E (x :: xs) (v :: vs)) : Rel E x v ∧ RelL E xs vs :=
  ⟨by simpa using h.2 0 (by simp), by simpa using h.1, fun i hi => by simpa using h.2 (i + 1) (by simpa using hi)⟩
theorem RelL.getD {E : Env} {xs : List Value} {vs : List V} (h : RelL E xs vs) (i : Nat) : Rel E (xs.getD i undef) (vs.getD i .any) := by
  by_cases hi : i < vs.length
  · exact h.2 i hi
  · rw [List.getD_eq_getElem?_getD (l := vs), List.getElem?_eq_none (by omega)]; exact .any _
theorem RelL.append {E : Env} {xs ys : List Value} {vs us : List V} (h : RelL E xs vs) (k : RelL E ys us) : RelL E (xs ++ ys) (vs ++ us) := by
  refine ⟨by simp [h.1, k.1], fun i hi => ?_⟩
  by_cases hl : i < vs.length
  · have := h.2 i hl
    rw [List.getD_eq_getElem?_getD, List.getD_eq_getElem?_getD, List.getElem?_append_left (by rw [h.1]; exact hl), List.getElem?_append_left hl, ← List.getD_eq_getElem?_getD, ← List.getD_eq_getElem?_getD]
    exact this
  · have hl' : vs.length ≤ i := by omega
    have := k.2 (i - vs.length) (by simp at hi; omega)
    rw [List.getD_eq_getElem?_getD, List.getD_eq_getElem?_getD, List.getElem?_append_right (by rw [h.1]; exact hl'), List.getElem?_append_right hl', ← List.getD_eq_getElem?_getD, ← List.getD_eq_getElem?_getD, h.1]
    exact this
theorem RelL.set {E : Env} {xs : List Value} {vs : List V} (h : RelL E xs vs) (d : Nat) {x : Value} {v : V} (hv : Rel E x v) : RelL E (xs.set d x) (vs.set d v) := by
  refine ⟨by simp [h.1], fun i hi => ?_⟩
  simp only [List.length_set] at hi
  by_cases hd : d = i
  · subst hd
    simp [List.getD_eq_getElem?_getD, List.getElem?_set, hi, h.1, hv]
  · simpa [List.getD_eq_getElem?_getD, List.getElem?_set, hd] using h.2 i hi
theorem Rel.agg_iff {E : Env} {x : Value} {cs : List V} : Rel E x (.agg cs) ↔ ∃ arr : Array Value, x = .agg arr ∧ RelL E arr.toList cs := by
  constructor
  · intro h
    cases h with
    | agg arr _ h1 h2 => exact ⟨arr, rfl, by simpa using h1, fun i hi => by simpa [Array.getD_eq_getD_getElem?, List.getD_eq_getElem?_getD] using h2 i hi⟩
  · rintro ⟨arr, rfl, h1, h2⟩
    exact .agg arr cs (by simpa using h1) fun i hi => by simpa [Array.getD_eq_getD_getElem?, List.getD_eq_getElem?_getD] using h2 i hi
theorem Rel.tup_iff {E : Env} {x : Value} {cs : List V} : Rel E x (.tup cs) ↔ ∃ arr : Array Value, x = .tuple arr ∧ RelL E arr.toList cs := by
  constructor
  · intro h
    cases h with
    | tup arr _ h1 h2 => exact ⟨arr, rfl, by simpa using h1, fun i hi => by simpa [Array.getD_eq_getD_getElem?, List.getD_eq_getElem?_getD] using h2 i hi⟩
  · rintro ⟨arr, rfl, h1, h2⟩
    exact .tup arr cs (by simpa using h1) fun i hi => by simpa [Array.getD_eq_getD_getElem?, List.getD_eq_getElem?_getD] using h2 i hi
theorem Rel.fn_iff {E : Env} {x : Value} {f : FuncId} {cs : List V} : Rel E x (.fn f cs) ↔ ∃ arr : Array Value, x = .func (.func f) #[] arr ∧ RelL E arr.toList cs := by
  constructor
  · intro h
    cases h with
    | fn _ arr _ h1 h2 => exact ⟨arr, rfl, by simpa using h1, fun i hi => by simpa [Array.getD_eq_getD_getElem?, List.getD_eq_getElem?_getD] using h2 i hi⟩
  · rintro ⟨arr, rfl, h1, h2⟩
    exact .fn f arr cs (by simpa using h1) fun i hi => by simpa [Array.getD_eq_getD_getElem?, List.getD_eq_getElem?_getD] using h2 i hi
theorem Rel.sc_iff {E : Env} {x y : Value} : Rel E x (.sc y) ↔ x = y := ⟨fun h => by cases h; rfl, fun h => h ▸ .sc _⟩
theorem Rel.cells {E : Env} {x : Value} {v : V} (h : Rel E x v) (hv : v.okCells = true) : RelL E x.cells.toList v.cells := by
  cases h with
  | agg arr cs h1 h2 => exact (Rel.agg_iff.1 (.agg arr cs h1 h2)).elim fun a ⟨e, h⟩ => by cases e; exact h
  | sc x =>
    cases x <;> simp_all [V.okCells, V.cells, V.one, Value.oneCell', Value.cells] <;> exact .cons (.sc _) (.nil _)
  | any => simp [V.okCells, V.cells, V.one] at hv
  | tup => simp [V.okCells, V.cells, V.one] at hv
  | junk x hx => cases x <;> simp_all [Value.oneCell', Value.cells, V.cells] <;> exact .cons (.junk _ rfl) (.nil _)
  | nil full a c h1 h2 => exact .cons (.nil full a c h1 h2) (.nil _)
  | sl full es g off c sz f a1 a2 a3 a4 a5 a6 a7 a8 a9 => exact .cons (.sl full es g off c sz f a1 a2 a3 a4 a5 a6 a7 a8 a9) (.nil _)
  | pt v g off f a1 a2 a3 a4 => exact .cons (.pt v g off f a1 a2 a3 a4) (.nil _)
  | fn f arr caps a1 a2 => exact .cons (.fn f arr caps a1 a2) (.nil _)
  | own id o a1 a2 a3 =>
    have hr : Rel E (E.loc id) (.own id) := .own id o a1 a2 a3
    obtain ⟨a, n, c, e⟩ := a3
    rw [e] at hr ⊢
    exact .cons hr (.nil _)
  | ptr id i fo o g a1 a2 => exact .cons (.ptr id i fo o g a1 a2) (.nil _)
  | vw id off len cap o g a1 a2 a3 a4 => exact .cons (.vw id off len cap o g a1 a2 a3 a4) (.nil _)
  | mp id o a1 a2 a3 =>
    have hr : Rel E (E.loc id) (.mp id) := .mp id o a1 a2 a3
    obtain ⟨r, e⟩ := a3
    rw [e] at hr ⊢
    exact .cons hr (.nil _)
  | dnil => exact .cons .dnil (.nil _)
  | dmp ks vs g arr clk a1 a2 a3 a4 a5 a6 a7 => exact .cons (.dmp ks vs g arr clk a1 a2 a3 a4 a5 a6 a7) (.nil _)
end Go.AM
namespace Go.AM
namespace V
mutual
theorem kill_data (d : Nat) : (v : V) → v.data = true → v.kill d = v
  | .sc _, _ => by simp [kill]
  | .any, _ => by simp [kill]
  | .junk, _ => by simp [kill]
  | .agg cs, h => by simp only [kill]; rw [killL_data d cs (by simpa [data] using h)]
  | .tup cs, h => by simp only [kill]; rw [killL_data d cs (by simpa [data] using h)]
  | .sl _ _, _ => by simp [kill]
  | .pt _, _ => by simp [kill]
  | .fn _ cs, h => by simp only [kill]; rw [killL_data d cs (by simpa [data] using h)]
  | .dmp _ _, _ => by simp [kill]
  | .own _, h => by simp [data] at h
  | .ptr .., h => by simp [data] at h
  | .vw .., h => by simp [data] at h
  | .mp _, h => by simp [data] at h
theorem killL_data (d : Nat) : (vs : List V) → dataL vs = true → killL d vs = vs
  | [], _ => by simp [killL]
  | v :: vs, h => by
    have h' : data v = true ∧ dataL vs = true := by simpa [dataL] using h
    simp only [killL]; rw [kill_data d v h'.1, killL_data d vs h'.2]
end
mutual
theorem frz_data (d : Nat) (x z : V) : (v : V) → v.data = true → frz d x z v = v
  | .sc _, _ => by simp [frz]
  | .any, _ => by simp [frz]
  | .junk, _ => by simp [frz]
  | .agg cs, h => by simp only [frz]; rw [frzL_data d x z cs (by simpa [data] using h)]
  | .tup cs, h => by simp only [frz]; rw [frzL_data d x z cs (by simpa [data] using h)]
  | .sl _ _, _ => by simp [frz]
  | .pt _, _ => by simp [frz]
  | .fn _ cs, h => by simp only [frz]; rw [frzL_data d x z cs (by simpa [data] using h)]
  | .dmp _ _, _ => by simp [frz]
  | .own _, h => by simp [data] at h
  | .ptr .., h => by simp [data] at h
  | .vw .., h => by simp [data] at h
  | .mp _, h => by simp [data] at h
theorem frzL_data (d : Nat) (x z : V) : (vs : List V) → dataL vs = true → frzL d x z vs = vs
  | [], _ => by simp [frzL]
  | v :: vs, h => by
    have h' : data v = true ∧ dataL vs = true := by simpa [dataL] using h
    simp only [frzL]; rw [frz_data d x z v h'.1, frzL_data d x z vs h'.2]
end
theorem data_getD_cells {es : List V} (h : dataL es = true) (i j : Nat) : data ((es.getD i .any).cells.getD j .any) = true :=
  dataL_getD (data_cells (dataL_getD h i)) j
end V
structure Ext (w0 : World) (M : Nat → Prop) (w : World) : Prop where
  os : w.os = w0.os
  tape : w.tape = w0.tape
  output : w.output = w0.output
  size : w0.heap.size ≤ w.heap.size
  block : ∀ b, b < w0.heap.size → ¬ M b → w.heap[b]? = w0.heap[b]?
theorem Ext.refl (w : World) (M : Nat → Prop) : Ext w M w := ⟨rfl, rfl, rfl, Nat.le_refl _, fun _ _ _ => rfl⟩
theorem Ext.trans {a b c : World} {M M' : Nat → Prop} (h : Ext a M b) (k : Ext b M' c) (hM : ∀ x, M' x → x < a.heap.size → M x) : Ext a M c :=
  ⟨k.os.trans h.os, k.tape.trans h.tape, k.output.trans h.output, Nat.le_trans h.size k.size, fun x hx hm =>
    (k.block x (Nat.lt_of_lt_of_le hx h.size) (fun e => hm (hM x e hx))).trans (h.block x hx hm)⟩
abbrev Grows (w w' : World) : Prop := Ext w (fun _ => False) w'
theorem Grows.alloc (w : World) (o : Go.Obj) : Grows w (w.alloc o) := ⟨rfl, rfl, rfl, by simp, fun b hb _ => heap_alloc_old w o b hb⟩
theorem Grows.drew (w : World) : Grows w w.drew := ⟨rfl, rfl, rfl, by simp, fun b hb _ => rfl⟩
theorem Ext.grows {a b c : World} {M : Nat → Prop} (h : Ext a M b) (k : Grows b c) : Ext a M c := h.trans k (fun _ e => e.elim)
def env (w : World) (O : Nat → Prop) (H : Heap) (loc : Nat → Value) : Env where
  w := w
  F b := b < w.heap.size ∧ ¬ O b ∧ ∀ id, (look H id).isSome = true → blk (loc id) ≠ some b
  obj := look H
  loc := loc
theorem cell_of_heap {w w' : World} {b : Nat} (h : w'.heap[b]? = w.heap[b]?) (o : Nat) : w'.cell? ⟨b, o, none⟩ = w.cell? ⟨b, o, none⟩ := by
  simp [World.cell?, h]
theorem alike_lst {o o' : Obj} (h : o'.alike o) : isLst o' = isLst o := by cases o <;> cases o' <;> simp_all [Obj.alike, isLst]
theorem alike_row {o o' : Obj} (h : o'.alike o) : isRow o' = isRow o := by cases o <;> cases o' <;> simp_all [Obj.alike, isRow]
theorem alike_map {o o' : Obj} (h : o'.alike o) : isMap o' = isMap o := by cases o <;> cases o' <;> simp_all [Obj.alike, isMap]
section
variable {E E' : Env}
theorem Rel.mono (hF : ∀ b, E.F b → E'.F b ∧ E'.w.heap[b]? = E.w.heap[b]?)
    (hid : ∀ id o, E.obj id = some o → ∃ o', E'.obj id = some o' ∧ o'.alike o ∧ E'.loc id = E.loc id) {x : Value} {v : V} (h : Rel E x v) : Rel E' x v := by
  induction h with
  | sc x => exact .sc x
  | any x => exact .any x
  | junk x h => exact .junk x h
  | agg arr cs h _ ih => exact .agg arr cs h ih
  | tup arr cs h _ ih => exact .tup arr cs h ih
  | nil full a c h1 h2 => exact .nil full a c h1 h2
  | sl full es g off c sz f a1 a2 a3 a4 a5 a6 a7 a8 a9 ih =>
    exact .sl full es g off c sz f a1 a2 a3 a4 (hF g a5).1 a6 a7 (fun k hk => by rw [cell_of_heap (hF g a5).2]; exact a8 k hk) ih
  | pt v g off f a1 a2 a3 a4 ih => exact .pt v g off f a1 (hF g a2).1 (fun k hk => by rw [cell_of_heap (hF g a2).2]; exact a3 k hk) ih
  | fn f arr caps a1 a2 ih => exact .fn f arr caps a1 ih
  | own id o a1 a2 a3 =>
    obtain ⟨o', h1, h2, h3⟩ := hid id o a1
    rw [← h3]; exact .own id o' h1 ((alike_lst h2).trans a2) (by rw [h3]; exact a3)
  | ptr id i fo o g a1 a2 =>
    obtain ⟨o', h1, h2, h3⟩ := hid id o a1
    rw [← Obj.alike_sz h2]; exact .ptr id i fo o' g h1 (by rw [h3]; exact a2)
  | vw id off len cap o g a1 a2 a3 a4 =>
    obtain ⟨o', h1, h2, h3⟩ := hid id o a1
    rw [← Obj.alike_sz h2]; exact .vw id off len cap o' g h1 ((alike_row h2).trans a2) (by rw [h3]; exact a3) a4
  | mp id o a1 a2 a3 =>
    obtain ⟨o', h1, h2, h3⟩ := hid id o a1
    rw [← h3]; exact .mp id o' h1 ((alike_map h2).trans a2) (by rw [h3]; exact a3)
  | dnil => exact .dnil
  | dmp ks vs g arr clk a1 a2 a3 a4 a5 a6 a7 ih => exact .dmp ks vs g arr clk a1 (hF g a2).1 (by rw [(hF g a2).2]; exact a3) a4 a5 a6 ih
theorem Rel.data_mono (hF : ∀ b, E.F b → E'.F b ∧ E'.w.heap[b]? = E.w.heap[b]?) {x : Value} {v : V} (h : Rel E x v) (hd : v.data = true) : Rel E' x v := by
  induction h with
  | sc x => exact .sc x
  | any x => exact .any x
  | junk x h => exact .junk x h
  | agg arr cs h _ ih => exact .agg arr cs h (fun i hi => ih i hi (V.dataL_getD (by simpa [V.data] using hd) i))
  | tup arr cs h _ ih => exact .tup arr cs h (fun i hi => ih i hi (V.dataL_getD (by simpa [V.data] using hd) i))
  | nil full a c h1 h2 => exact .nil full a c h1 h2
  | sl full es g off c sz f a1 a2 a3 a4 a5 a6 a7 a8 a9 ih =>
    exact .sl full es g off c sz f a1 a2 a3 a4 (hF g a5).1 a6 a7 (fun k hk => by rw [cell_of_heap (hF g a5).2]; exact a8 k hk) (fun i j hi hj => ih i j hi hj (V.data_getD_cells a1 i j))
  | pt v g off f a1 a2 a3 a4 ih => exact .pt v g off f a1 (hF g a2).1 (fun k hk => by rw [cell_of_heap (hF g a2).2]; exact a3 k hk) (fun j hj => ih j hj (V.dataL_getD (V.data_cells a1) j))
  | fn f arr caps a1 a2 ih => exact .fn f arr caps a1 (fun i hi => ih i hi (V.dataL_getD (by simpa [V.data] using hd) i))
  | own | ptr | vw | mp => simp [V.data] at hd
  | dnil => exact .dnil
  | dmp ks vs g arr clk a1 a2 a3 a4 a5 a6 a7 ih => exact .dmp ks vs g arr clk a1 (hF g a2).1 (by rw [(hF g a2).2]; exact a3) a4 a5 a6 (fun i hi => ih i hi (V.dataL_getD a1 i))
theorem Rel.kill (d : Nat) (hF : ∀ b, E.F b → E'.F b ∧ E'.w.heap[b]? = E.w.heap[b]?)
    (hid : ∀ id o, id ≠ d → E.obj id = some o → ∃ o', E'.obj id = some o' ∧ o'.alike o ∧ E'.loc id = E.loc id) {x : Value} {v : V} (h : Rel E x v) : Rel E' x (v.kill d) := by
  induction h with
  | sc x => simp only [V.kill]; exact .sc x
  | any x => simp only [V.kill]; exact .any x
  | junk x h => simp only [V.kill]; exact .junk x h
  | agg arr cs h _ ih => simp only [V.kill]; exact .agg arr _ (by rw [V.killL_length]; exact h) (fun i hi => by rw [V.killL_getD]; exact ih i (by rwa [V.killL_length] at hi))
  | tup arr cs h _ ih => simp only [V.kill]; exact .tup arr _ (by rw [V.killL_length]; exact h) (fun i hi => by rw [V.killL_getD]; exact ih i (by rwa [V.killL_length] at hi))
  | nil full a c h1 h2 => simp only [V.kill]; exact .nil full a c h1 h2
  | sl full es g off c sz f a1 a2 a3 a4 a5 a6 a7 a8 a9 ih =>
    simp only [V.kill]
    exact .sl full es g off c sz f a1 a2 a3 a4 (hF g a5).1 a6 a7 (fun k hk => by rw [cell_of_heap (hF g a5).2]; exact a8 k hk) (fun i j hi hj => (a9 i j hi hj).data_mono hF (V.data_getD_cells a1 i j))
  | pt v g off f a1 a2 a3 a4 ih =>
    simp only [V.kill]
    exact .pt v g off f a1 (hF g a2).1 (fun k hk => by rw [cell_of_heap (hF g a2).2]; exact a3 k hk) (fun j hj => (a4 j hj).data_mono hF (V.dataL_getD (V.data_cells a1) j))
  | fn f arr caps a1 a2 ih => simp only [V.kill]; exact .fn f arr _ (by rw [V.killL_length]; exact a1) (fun i hi => by rw [V.killL_getD]; exact ih i (by rwa [V.killL_length] at hi))
  | own id o a1 a2 a3 =>
    simp only [V.kill]
    by_cases hd : id = d
    · rw [if_pos hd]; obtain ⟨a, n, c, e⟩ := a3; rw [e]; exact .junk _ rfl
    · rw [if_neg hd]
      obtain ⟨o', h1, h2, h3⟩ := hid id o hd a1
      rw [← h3]; exact .own id o' h1 ((alike_lst h2).trans a2) (by rw [h3]; exact a3)
  | ptr id i fo o g a1 a2 =>
    simp only [V.kill]
    by_cases hd : id = d
    · rw [if_pos hd]; exact .junk _ rfl
    · rw [if_neg hd]
      obtain ⟨o', h1, h2, h3⟩ := hid id o hd a1
      rw [← Obj.alike_sz h2]; exact .ptr id i fo o' g h1 (by rw [h3]; exact a2)
  | vw id off len cap o g a1 a2 a3 a4 =>
    simp only [V.kill]
    by_cases hd : id = d
    · rw [if_pos hd]; exact .junk _ rfl
    · rw [if_neg hd]
      obtain ⟨o', h1, h2, h3⟩ := hid id o hd a1
      rw [← Obj.alike_sz h2]; exact .vw id off len cap o' g h1 ((alike_row h2).trans a2) (by rw [h3]; exact a3) a4
  | mp id o a1 a2 a3 =>
    simp only [V.kill]
    by_cases hd : id = d
    · rw [if_pos hd]; obtain ⟨r, e⟩ := a3; rw [e]; exact .junk _ rfl
    · rw [if_neg hd]
      obtain ⟨o', h1, h2, h3⟩ := hid id o hd a1
      rw [← h3]; exact .mp id o' h1 ((alike_map h2).trans a2) (by rw [h3]; exact a3)
  | dnil => simp only [V.kill]; exact .dnil
  | dmp ks vs g arr clk a1 a2 a3 a4 a5 a6 a7 ih =>
    simp only [V.kill]
    exact .dmp ks vs g arr clk a1 (hF g a2).1 (by rw [(hF g a2).2]; exact a3) a4 a5 a6 (fun i hi => (a7 i hi).data_mono hF (V.dataL_getD a1 i))
theorem Rel.frz (d : Nat) (y z : V) (hF : ∀ b, E.F b → E'.F b ∧ E'.w.heap[b]? = E.w.heap[b]?)
    (hid : ∀ id o, id ≠ d → E.obj id = some o → ∃ o', E'.obj id = some o' ∧ o'.alike o ∧ E'.loc id = E.loc id)
    (hown : ∀ o, E.obj d = some o → isLst o = true → Rel E' (E.loc d) y)
    (hptr : ∀ o g, E.obj d = some o → blk (E.loc d) = some g → Rel E' (.pointer (some ⟨g, 0, none⟩)) z) (hmp : ∀ o, E.obj d = some o → isMap o = true → Rel E' (E.loc d) z) {x : Value} {v : V} (h : Rel E x v) : Rel E' x (V.frz d y z v) := by
  induction h with
  | sc x => simp only [V.frz]; exact .sc x
  | any x => simp only [V.frz]; exact .any x
  | junk x h => simp only [V.frz]; exact .junk x h
  | agg arr cs h _ ih => simp only [V.frz]; exact .agg arr _ (by rw [V.frzL_length]; exact h) (fun i hi => by rw [V.frzL_getD]; exact ih i (by rwa [V.frzL_length] at hi))
  | tup arr cs h _ ih => simp only [V.frz]; exact .tup arr _ (by rw [V.frzL_length]; exact h) (fun i hi => by rw [V.frzL_getD]; exact ih i (by rwa [V.frzL_length] at hi))
  | nil full a c h1 h2 => simp only [V.frz]; exact .nil full a c h1 h2
  | sl full es g off c sz f a1 a2 a3 a4 a5 a6 a7 a8 a9 ih =>
    simp only [V.frz]
    exact .sl full es g off c sz f a1 a2 a3 a4 (hF g a5).1 a6 a7 (fun k hk => by rw [cell_of_heap (hF g a5).2]; exact a8 k hk) (fun i j hi hj => (a9 i j hi hj).data_mono hF (V.data_getD_cells a1 i j))
  | pt v g off f a1 a2 a3 a4 ih =>
    simp only [V.frz]
    exact .pt v g off f a1 (hF g a2).1 (fun k hk => by rw [cell_of_heap (hF g a2).2]; exact a3 k hk) (fun j hj => (a4 j hj).data_mono hF (V.dataL_getD (V.data_cells a1) j))
  | fn f arr caps a1 a2 ih => simp only [V.frz]; exact .fn f arr _ (by rw [V.frzL_length]; exact a1) (fun i hi => by rw [V.frzL_getD]; exact ih i (by rwa [V.frzL_length] at hi))
  | own id o a1 a2 a3 =>
    simp only [V.frz]
    by_cases hd : id = d
    · rw [if_pos hd]; subst hd; exact hown o a1 a2
    · rw [if_neg hd]
      obtain ⟨o', h1, h2, h3⟩ := hid id o hd a1
      rw [← h3]; exact .own id o' h1 ((alike_lst h2).trans a2) (by rw [h3]; exact a3)
  | ptr id i fo o g a1 a2 =>
    simp only [V.frz]
    by_cases hd : id = d
    · rw [if_pos hd]; subst hd
      by_cases h0 : i = 0 ∧ fo = 0
      · rw [if_pos h0]; obtain ⟨rfl, rfl⟩ := h0; simpa using hptr o g a1 a2
      · rw [if_neg h0]; exact .junk _ rfl
    · rw [if_neg hd]
      obtain ⟨o', h1, h2, h3⟩ := hid id o hd a1
      rw [← Obj.alike_sz h2]; exact .ptr id i fo o' g h1 (by rw [h3]; exact a2)
  | vw id off len cap o g a1 a2 a3 a4 =>
    simp only [V.frz]
    by_cases hd : id = d
    · rw [if_pos hd]; exact .junk _ rfl
    · rw [if_neg hd]
      obtain ⟨o', h1, h2, h3⟩ := hid id o hd a1
      rw [← Obj.alike_sz h2]; exact .vw id off len cap o' g h1 ((alike_row h2).trans a2) (by rw [h3]; exact a3) a4
  | mp id o a1 a2 a3 =>
    simp only [V.frz]
    by_cases hd : id = d
    · rw [if_pos hd]; subst hd; exact hmp o a1 a2
    · rw [if_neg hd]
      obtain ⟨o', h1, h2, h3⟩ := hid id o hd a1
      rw [← h3]; exact .mp id o' h1 ((alike_map h2).trans a2) (by rw [h3]; exact a3)
  | dnil => simp only [V.frz]; exact .dnil
  | dmp ks vs g arr clk a1 a2 a3 a4 a5 a6 a7 ih =>
    simp only [V.frz]
    exact .dmp ks vs g arr clk a1 (hF g a2).1 (by rw [(hF g a2).2]; exact a3) a4 a5 a6 (fun i hi => (a7 i hi).data_mono hF (V.dataL_getD a1 i))
end
def Flat (E : Env) (f : Nat → Value) (sz : Nat) (es : List V) : Prop :=
  (∀ i, i < es.length → (es.getD i .any).cells.length = sz) ∧ ∀ i j, i < es.length → j < sz → Rel E (f (i * sz + j)) ((es.getD i .any).cells.getD j .any)
def ObjOK (E : Env) (id : Nat) : Obj → Prop
  | .var t v => ∃ g arr, E.loc id = .pointer (some ⟨g, 0, none⟩) ∧ E.w.heap[g]? = some (.cells arr t (0, 0)) ∧ RelL E arr.toList v.cells
  | .lst t sz es => (0 < sz ∧ V.dataL es = true) ∧ ∃ xs, E.w.ownsRow 0 t sz (E.loc id) es.length xs ∧ Flat E (fun k => xs.getD k undef) sz es
  | .row t sz es => (0 < sz ∧ V.dataL es = true) ∧ ∃ g arr, E.loc id = .slice (some ⟨g, 0, none⟩) es.length es.length ∧ E.w.heap[g]? = some (.cells arr t (0, 0)) ∧ arr.size = es.length * sz ∧ es.length ≤ maxLen ∧
      Flat E (fun k => arr.getD k undef) sz es
  | .map ks vs => ∃ (g : Nat) (arr : Array MapEntry) (clk : Nat), E.loc id = .map (some g) ∧ E.w.heap[g]? = some (.map arr clk) ∧ (arr.size = ks.length ∧ vs.length = ks.length) ∧
      (∀ i, i < ks.length → (arr.getD i default).key = ks.getD i undef) ∧ (V.dataL vs = true ∧ ∀ i, i < ks.length → Rel E (arr.getD i default).val (vs.getD i .any))
  | .gho x v => Rel E x v ∧ blk (E.loc id) = none
structure SimAt (w0 : World) (O M : Nat → Prop) (H : Heap) (loc : Nat → Value) (vs : List V) (xs : List Value) (w : World) : Prop where
  vals : RelL (env w O H loc) xs vs
  objs : ∀ id o, look H id = some o → ObjOK (env w O H loc) id o
  dist : ∀ id id' b, (look H id).isSome = true → (look H id').isSome = true → blk (loc id) = some b → blk (loc id') = some b → id = id'
  own : ∀ id b, (look H id).isSome = true → blk (loc id) = some b → ¬ O b ∧ (w0.heap.size ≤ b ∨ M b)
  ext : Ext w0 M w
  O_lt : ∀ b, O b → b < w0.heap.size
theorem ObjOK.lt {E : Env} {id : Nat} {o : Obj} (h : ObjOK E id o) {b : Nat} (hb : blk (E.loc id) = some b) : b < E.w.heap.size := by
  cases o with
  | var t v =>
    obtain ⟨g, arr, e, hg, _⟩ := h
    rw [e] at hb; simp [blk] at hb; subst hb
    exact (Array.getElem?_eq_some_iff.1 hg).1
  | lst t sz es =>
    obtain ⟨_, xs, ho, _⟩ := h
    rcases ho.2 with ⟨e, _⟩ | ⟨g, cap, cur, e, _, hg, _⟩
    · rw [e] at hb; simp [blk] at hb
    · rw [e] at hb; simp [blk] at hb; subst hb
      exact (Array.getElem?_eq_some_iff.1 hg).1
  | row t sz es =>
    obtain ⟨_, g, arr, e, hg, _⟩ := h
    rw [e] at hb; simp [blk] at hb; subst hb
    exact (Array.getElem?_eq_some_iff.1 hg).1
  | map ks vs =>
    obtain ⟨g, arr, clk, e, hg, _⟩ := h
    rw [e] at hb; simp [blk] at hb; subst hb
    exact (Array.getElem?_eq_some_iff.1 hg).1
  | gho x v => rw [h.2] at hb; cases hb
theorem Flat.imp {E E' : Env} {f : Nat → Value} {sz : Nat} {es : List V} (h : Flat E f sz es) (k : ∀ x v, Rel E x v → Rel E' x v) : Flat E' f sz es :=
  ⟨h.1, fun i j hi hj => k _ _ (h.2 i j hi hj)⟩
theorem RelL.imp {E E' : Env} {xs : List Value} {vs : List V} (h : RelL E xs vs) (k : ∀ x v, Rel E x v → Rel E' x v) : RelL E' xs vs := ⟨h.1, fun i hi => k _ _ (h.2 i hi)⟩
theorem ObjOK.imp {E E' : Env} {id : Nat} {o : Obj} (h : ObjOK E id o) (hl : E'.loc id = E.loc id) (hb : ∀ b, blk (E.loc id) = some b → E'.w.heap[b]? = E.w.heap[b]?)
    (k : ∀ x v, Rel E x v → Rel E' x v) : ObjOK E' id o := by
  cases o with
  | var t v =>
    obtain ⟨g, arr, e, hg, hr⟩ := h
    exact ⟨g, arr, hl.trans e, by rw [hb g (by rw [e]; rfl)]; exact hg, hr.imp k⟩
  | lst t sz es =>
    obtain ⟨hz, xs, ho, hf⟩ := h
    refine ⟨hz, xs, ?_, hf.imp k⟩
    rw [hl]
    refine ⟨ho.1, ?_⟩
    rcases ho.2 with hn | ⟨g, cap, cur, e, h1, hg, h2⟩
    · exact .inl hn
    · exact .inr ⟨g, cap, cur, e, h1, by rw [hb g (by rw [e]; rfl)]; exact hg, h2⟩
  | row t sz es =>
    obtain ⟨hz, g, arr, e, hg, h1, h2, hf⟩ := h
    exact ⟨hz, g, arr, hl.trans e, by rw [hb g (by rw [e]; rfl)]; exact hg, h1, h2, hf.imp k⟩
  | map ks vs =>
    obtain ⟨g, arr, clk, e, hg, h1, h2, h3, h4⟩ := h
    exact ⟨g, arr, clk, hl.trans e, by rw [hb g (by rw [e]; rfl)]; exact hg, h1, h2, h3, fun i hi => k _ _ (h4 i hi)⟩
  | gho x v => exact ⟨k _ _ h.1, by rw [hl]; exact h.2⟩
theorem look_eq (d : Nat) (o : Obj) (H : Heap) : look ((d, o) :: H) d = some o := by simp [look]
theorem look_one {k id : Nat} {o p : Obj} (h : look [(k, o)] id = some p) : id = k ∧ p = o := by
  by_cases e : k = id
  · subst e; simp [look] at h; exact ⟨rfl, h.symm⟩
  · simp [look, e] at h
theorem look_one' {k id : Nat} {o : Obj} (h : (look [(k, o)] id).isSome = true) : id = k := by
  obtain ⟨p, hp⟩ := Option.isSome_iff_exists.1 h
  exact (look_one hp).1
theorem look_ne {id d : Nat} (h : id ≠ d) (o : Obj) (H : Heap) : look ((d, o) :: H) id = look H id := by
  simp only [look]; rw [if_neg (fun e => h e.symm)]
section
variable {w0 : World} {O M : Nat → Prop} {H : Heap} {loc : Nat → Value} {vs : List V} {xs : List Value} {w : World}
theorem SimAt.lt (h : SimAt w0 O M H loc vs xs w) {id : Nat} {b : Nat} (hs : (look H id).isSome = true) (hb : blk (loc id) = some b) : b < w.heap.size := by
  obtain ⟨o, ho⟩ := Option.isSome_iff_exists.1 hs
  exact (h.objs id o ho).lt hb
theorem SimAt.put (h : SimAt w0 O M H loc vs xs w) (d : Nat) {x : Value} {v : V} (hr : Rel (env w O H loc) x v) : SimAt w0 O M H loc (vs.set d v) (xs.set d x) w :=
  ⟨h.vals.set d hr, h.objs, h.dist, h.own, h.ext, h.O_lt⟩
theorem SimAt.vals' (h : SimAt w0 O M H loc vs xs w) {vs' : List V} {xs' : List Value} (hr : RelL (env w O H loc) xs' vs') : SimAt w0 O M H loc vs' xs' w :=
  ⟨hr, h.objs, h.dist, h.own, h.ext, h.O_lt⟩
theorem SimAt.rel_grows (h : SimAt w0 O M H loc vs xs w) {w' : World} (hg : Grows w w') {x : Value} {v : V} (hr : Rel (env w O H loc) x v) : Rel (env w' O H loc) x v :=
  hr.mono (E := env w O H loc) (E' := env w' O H loc) (fun b hb => ⟨⟨Nat.lt_of_lt_of_le hb.1 hg.size, hb.2⟩, hg.block b hb.1 (fun e => e)⟩) (fun id o ho => ⟨o, ho, o.alike_refl, rfl⟩)
theorem SimAt.grows (h : SimAt w0 O M H loc vs xs w) {w' : World} (hg : Grows w w') : SimAt w0 O M H loc vs xs w' :=
  ⟨h.vals.imp fun _ _ hr => h.rel_grows hg hr,
   fun id o ho => (h.objs id o ho).imp rfl (fun b hb => hg.block b (h.lt (by simp [ho]) hb) (fun e => e)) (fun _ _ hr => h.rel_grows hg hr),
   h.dist, h.own, h.ext.grows hg, h.O_lt⟩
theorem SimAt.new (h : SimAt w0 O M H loc vs xs w) (d : Nat) (hd : look H d = none) {w' : World} (hg : Grows w w') (v0 : Value) (o : Obj)
    (hb : ∀ b, blk v0 = some b → w.heap.size ≤ b)
    (ho : (∀ x v, Rel (env w O H loc) x v → Rel (env w' O ((d, o) :: H) (fun k => if k = d then v0 else loc k)) x v) → ObjOK (env w' O ((d, o) :: H) (fun k => if k = d then v0 else loc k)) d o) :
    SimAt w0 O M ((d, o) :: H) (fun k => if k = d then v0 else loc k) vs xs w' ∧
      (∀ x v, Rel (env w O H loc) x v → Rel (env w' O ((d, o) :: H) (fun k => if k = d then v0 else loc k)) x v) := by
  have hrel : ∀ x v, Rel (env w O H loc) x v → Rel (env w' O ((d, o) :: H) (fun k => if k = d then v0 else loc k)) x v := by
    intro x v hr
    refine hr.mono (E := env w O H loc) (E' := env w' O ((d, o) :: H) (fun k => if k = d then v0 else loc k)) (fun b hb' => ⟨⟨Nat.lt_of_lt_of_le hb'.1 hg.size, hb'.2.1, ?_⟩, hg.block b hb'.1 (fun e => e)⟩) ?_
    · intro id hid he
      replace he : blk (if id = d then v0 else loc id) = some b := he
      by_cases hk : id = d
      · subst hk
        rw [if_pos rfl] at he
        have h1 := hb b he
        have h2 : b < w.heap.size := hb'.1
        omega
      · rw [if_neg hk] at he
        refine hb'.2.2 id ?_ he
        rw [look_ne hk] at hid; exact hid
    · intro id p hp
      have hk : id ≠ d := by rintro rfl; simp only [env] at hp; rw [hd] at hp; cases hp
      exact ⟨p, by simp only [env, look]; rw [if_neg (fun e => hk e.symm)]; exact hp, p.alike_refl, by simp [env, hk]⟩
  refine ⟨⟨h.vals.imp hrel, ?_, ?_, ?_, h.ext.grows hg, h.O_lt⟩, hrel⟩
  · intro id p hp
    by_cases hk : id = d
    · subst hk
      simp only [look, if_true] at hp
      cases hp
      exact ho hrel
    · simp only [look] at hp
      rw [if_neg (fun e => hk e.symm)] at hp
      exact (h.objs id p hp).imp (by simp [env, hk]) (fun b hb' => hg.block b (h.lt (by simp [hp]) hb') (fun e => e)) hrel
  · intro id id' b h1 h2 h3 h4
    replace h3 : blk (if id = d then v0 else loc id) = some b := h3
    replace h4 : blk (if id' = d then v0 else loc id') = some b := h4
    by_cases hk : id = d
    · by_cases hk' : id' = d
      · rw [hk, hk']
      · exfalso
        rw [if_pos hk] at h3
        rw [if_neg hk'] at h4
        have h2' : (look H id').isSome = true := by rw [look_ne hk'] at h2; exact h2
        have := h.lt h2' h4
        have := hb b h3
        omega
    · have h1' : (look H id).isSome = true := by rw [look_ne hk] at h1; exact h1
      rw [if_neg hk] at h3
      by_cases hk' : id' = d
      · exfalso
        rw [if_pos hk'] at h4
        have := h.lt h1' h3
        have := hb b h4
        omega
      · rw [if_neg hk'] at h4
        exact h.dist id id' b h1' (by rw [look_ne hk'] at h2; exact h2) h3 h4
  · intro id b h1 h2
    replace h2 : blk (if id = d then v0 else loc id) = some b := h2
    by_cases hk : id = d
    · rw [if_pos hk] at h2
      have h3 := hb b h2
      exact ⟨fun e => by have := h.O_lt b e; have := h.ext.size; omega, .inl (Nat.le_trans h.ext.size h3)⟩
    · rw [if_neg hk] at h2
      exact h.own id b (by rw [look_ne hk] at h1; exact h1) h2
theorem SimAt.write (h : SimAt w0 O M H loc vs xs w) (d : Nat) (o o' : Obj) (ho : look H d = some o) (hal : o'.alike o) {w' : World} {g : Nat} (hg : blk (loc d) = some g)
    (hw : Ext w (fun b => b = g) w') (hnew : (∀ x v, Rel (env w O H loc) x v → Rel (env w' O (upd H d o') loc) x v) → ObjOK (env w' O (upd H d o') loc) d o') :
    SimAt w0 O M (upd H d o') loc vs xs w' ∧ (∀ x v, Rel (env w O H loc) x v → Rel (env w' O (upd H d o') loc) x v) := by
  have hds : (look H d).isSome = true := by simp [ho]
  have hs : ∀ id, (look (upd H d o') id).isSome = (look H id).isSome := by
    intro id; rw [look_upd]; by_cases hk : id = d <;> simp [hk]
  have hrel : ∀ x v, Rel (env w O H loc) x v → Rel (env w' O (upd H d o') loc) x v := by
    intro x v hr
    refine hr.mono (E := env w O H loc) (E' := env w' O (upd H d o') loc) (fun b hb' => ⟨⟨Nat.lt_of_lt_of_le hb'.1 hw.size, hb'.2.1, fun id hid => hb'.2.2 id (by rw [← hs]; exact hid)⟩, hw.block b hb'.1 (fun e => hb'.2.2 d hds (by rw [hg, e]))⟩) ?_
    intro id p hp
    have hp' : look H id = some p := hp
    show ∃ q, look (upd H d o') id = some q ∧ q.alike p ∧ loc id = loc id
    rw [look_upd]
    by_cases hk : id = d
    · subst hk; rw [if_pos rfl, hp']; rw [ho] at hp'; cases hp'; exact ⟨o', rfl, hal, rfl⟩
    · rw [if_neg hk]; exact ⟨p, hp', p.alike_refl, rfl⟩
  refine ⟨⟨h.vals.imp hrel, ?_, ?_, ?_, ?_, h.O_lt⟩, hrel⟩
  · intro id p hp
    rw [look_upd] at hp
    by_cases hk : id = d
    · subst hk; rw [if_pos rfl, ho] at hp; cases hp; exact hnew hrel
    · rw [if_neg hk] at hp
      refine (h.objs id p hp).imp rfl (fun b hb' => hw.block b (h.lt (by simp [hp]) hb') ?_) hrel
      intro e
      subst e
      exact hk (h.dist id d b (by simp [hp]) hds hb' hg)
  · intro id id' b h1 h2; rw [hs] at h1 h2; exact h.dist id id' b h1 h2
  · intro id b h1; rw [hs] at h1; exact h.own id b h1
  · refine h.ext.trans hw ?_
    rintro b rfl hb
    exact (h.own d b hds hg).2.resolve_left (by omega)
end
end Go.AM
namespace Go.AM
def aggD : TypeDesc → Bool | .struct _ | .array _ _ => true | _ => false
def tyv (P : Program) (t : TypeId) : Option (Bool × Nat) := match P.underlying t, P.info? t with
  | some d, some i => some (aggD d, i.size)
  | _, _ => none
def fldv (P : Program) (t : TypeId) (f : Nat) : Option (Nat × Bool × Nat) := match P.underlying t with
  | some (.struct fs) => match fs[f]? with
    | some x => match tyv P x.type with
      | some (ag, n) => if n = 0 then none else some (x.offset, ag, n)
      | none => none
    | none => none
  | _ => none
def slv (P : Program) (t : TypeId) : Option (TypeId × Nat × Nat) := match P.underlying t with
  | some (.slice e) => match P.info? e with
    | some i => some (e, i.size, i.bytes)
    | none => none
  | _ => none
def arv (P : Program) (t : TypeId) : Option (Nat × Bool × Nat) := match P.underlying t with
  | some (.array n e) => match tyv P e with
    | some (ag, k) => some (n, ag, k)
    | none => none
  | _ => none
theorem tyv_run {P : Program} {t : TypeId} {ag : Bool} {n : Nat} (h : tyv P t = some (ag, n)) (w : World) :
    (isAgg t).run P w = .ok ag w ∧ (sizeOf t).run P w = .ok n w := by
  unfold tyv at h
  cases hu : P.underlying t with
  | none => simp [hu] at h
  | some d =>
    cases hi : P.info? t with
    | none => simp [hu, hi] at h
    | some i =>
      simp only [hu, hi, Option.some.injEq, Prod.mk.injEq] at h
      obtain ⟨rfl, rfl⟩ := h
      constructor
      · unfold isAgg; rw [Sem.run_bind, run_underlying hu w]; cases d <;> simp [aggD]
      · simp [sizeOf, typeInfo, hi]
theorem fldv_run {P : Program} {t : TypeId} {f off n : Nat} {ag : Bool} (h : fldv P t f = some (off, ag, n)) :
    ∃ fs x, P.underlying t = some (.struct fs) ∧ fs[f]? = some x ∧ x.offset = off ∧ tyv P x.type = some (ag, n) ∧ 0 < n := by
  unfold fldv at h
  split at h
  · rename_i fs hu
    split at h
    · rename_i x hx
      split at h
      · rename_i ag' n' ht
        split at h
        · cases h
        · simp only [Option.some.injEq, Prod.mk.injEq] at h
          obtain ⟨rfl, rfl, rfl⟩ := h
          exact ⟨fs, x, hu, hx, rfl, ht, by omega⟩
      · cases h
    · cases h
  · cases h
theorem slv_run {P : Program} {t e : TypeId} {n by_ : Nat} (h : slv P t = some (e, n, by_)) : P.underlying t = some (.slice e) ∧ ∃ i, P.info? e = some i ∧ i.size = n ∧ i.bytes = by_ := by
  unfold slv at h
  split at h
  · rename_i e' hu
    split at h
    · rename_i i hi
      simp only [Option.some.injEq, Prod.mk.injEq] at h
      obtain ⟨rfl, rfl, rfl⟩ := h
      exact ⟨hu, i, hi, rfl, rfl⟩
    · cases h
  · cases h
theorem arv_run {P : Program} {t : TypeId} {n k : Nat} {ag : Bool} (h : arv P t = some (n, ag, k)) : ∃ e, P.underlying t = some (.array n e) ∧ tyv P e = some (ag, k) := by
  unfold arv at h
  split at h
  · rename_i n' e hu
    split at h
    · rename_i ag' k' ht
      simp only [Option.some.injEq, Prod.mk.injEq] at h
      obtain ⟨rfl, rfl, rfl⟩ := h
      exact ⟨e, hu, ht⟩
    · cases h
  · cases h
structure St where
  slots : List V
  heap : Heap
@[reducible] def V.nilS : V := .sc (.slice none 0 0)
def ev (s : List V) : Operand → V
  | .tmp t => s.getD t .any
  | .const v => .sc v
  | .global _ => .any
  | .func f => .fn f []
def ofZero : Value → V
  | .agg arr => .agg (arr.toList.map .sc)
  | v => .sc v
def zv (P : Program) (t : TypeId) : Option V := match P.info? t with
  | some i => i.zero.map ofZero
  | none => none
def Obj.elem : Obj → Nat → V
  | .var _ v, _ => v
  | .lst _ _ es, i => es.getD i .any
  | .row _ _ es, i => es.getD i .any
  | .map .., _ => .any
  | .gho .., _ => .any
def Obj.len : Obj → Nat
  | .var .. => 1
  | .lst _ _ es => es.length
  | .row _ _ es => es.length
  | .map .. => 0
  | .gho .. => 0
def cmpK (op : BinOp) (a b : Int) (K : V → Prop) : Prop := match op with
  | .eql => K (.sc (.bool (decide (a = b))))
  | .neq => K (.sc (.bool (!decide (a = b))))
  | .lss => K (.sc (.bool (decide (a < b))))
  | .leq => K (.sc (.bool (decide (a ≤ b))))
  | .gtr => K (.sc (.bool (decide (b < a))))
  | .geq => K (.sc (.bool (decide (b ≤ a))))
  | _ => False
def intK (op : BinOp) (k k' : IntKind) (a b : Int) (K : V → Prop) : Prop := match op with
  | .add => k = k' ∧ K (.sc (.int k (k.wrap (a + b))))
  | .sub => k = k' ∧ K (.sc (.int k (k.wrap (a - b))))
  | .mul => k = k' ∧ K (.sc (.int k (k.wrap (a * b))))
  | .quo => k = k' ∧ b ≠ 0 ∧ K (.sc (.int k (k.wrap (a.tdiv b))))
  | .rem => k = k' ∧ b ≠ 0 ∧ K (.sc (.int k (a.tmod b)))
  | .and => k = k' ∧ K (.sc (.int k (k.wrap (BitVec.ofInt k.bits a &&& BitVec.ofInt k.bits b).toNat)))
  | .or => k = k' ∧ K (.sc (.int k (k.wrap (BitVec.ofInt k.bits a ||| BitVec.ofInt k.bits b).toNat)))
  | .xor => k = k' ∧ K (.sc (.int k (k.wrap (BitVec.ofInt k.bits a ^^^ BitVec.ofInt k.bits b).toNat)))
  | .andNot => k = k' ∧ K (.sc (.int k (k.wrap (BitVec.ofInt k.bits a &&& ~~~ BitVec.ofInt k.bits b).toNat)))
  | .shl => 0 ≤ b ∧ K (.sc (.int k (k.wrap (a * 2 ^ (min b.toNat k.bits)))))
  | .shr => 0 ≤ b ∧ K (.sc (.int k (a.fdiv (2 ^ (min b.toNat k.bits)))))
  | op => k = k' ∧ cmpK op a b K
def strK (op : BinOp) (a b : ByteArray) (K : V → Prop) : Prop := match op with
  | .eql => K (.sc (.bool (decide (a = b))))
  | .neq => K (.sc (.bool (!decide (a = b))))
  | .lss => K (.sc (.bool (Op.bytesLess a.toList b.toList)))
  | .add => a.size + b.size ≤ 140737488355328 ∧ K (.sc (.string (a ++ b)))
  | _ => False
def eqCells : List V → List V → Bool
  | [], [] => true
  | .sc (.int _ a) :: xs, .sc (.int _ b) :: ys => decide (a = b) && eqCells xs ys
  | .sc (.bool a) :: xs, .sc (.bool b) :: ys => (a == b) && eqCells xs ys
  | .sc (.string a) :: xs, .sc (.string b) :: ys => decide (a = b) && eqCells xs ys
  | _, _ => false
def plainCells : List V → List V → Bool
  | [], [] => true
  | .sc (.int k _) :: xs, .sc (.int k' _) :: ys => k == k' && plainCells xs ys
  | .sc (.bool _) :: xs, .sc (.bool _) :: ys => plainCells xs ys
  | .sc (.string _) :: xs, .sc (.string _) :: ys => plainCells xs ys
  | _, _ => false
def CellEq (P : Program) (t : TypeId) (zs : List V) : Prop := ∀ (cs ds : List V) (xs ys : Array Value) (E : Env) (w : World), plainCells zs cs = true → plainCells cs ds = true → RelL E xs.toList cs → RelL E ys.toList ds →
  (Op.equalIn 10000 t (.agg xs) (.agg ys)).run P w = .ok (eqCells cs ds) w
def eqlT (P : Program) (t : TypeId) (zs : List V) : Prop := CellEq P t zs ∧ P.eqGuardType P.depth t = false
def eqlC (P : Program) (t : TypeId) (cs ds : List V) : Prop := ∃ zs, eqlT P t zs ∧ plainCells zs cs = true ∧ plainCells cs ds = true
def binK (P : Program) (op : BinOp) (t : TypeId) (x y : V) (K : V → Prop) : Prop := match x, y with
  | .sc (.int k a), .sc (.int k' b) => intK op k k' a b K
  | .sc (.bool a), .sc (.bool b) => match op with
    | .eql => P.underlying t = some .bool ∧ K (.sc (.bool (a == b)))
    | .neq => P.underlying t = some .bool ∧ K (.sc (.bool (!(a == b))))
    | _ => False
  | .sc (.string a), .sc (.string b) => strK op a b K
  | .agg cs, .agg ds => match op with
    | .eql => eqlC P t cs ds ∧ K (.sc (.bool (eqCells cs ds)))
    | .neq => eqlC P t cs ds ∧ K (.sc (.bool (!eqCells cs ds)))
    | _ => False
  | _, _ => False
def unK (op : UnOp) (x : V) (K : V → Prop) : Prop := match op, x with
  | .not, .sc (.bool b) => K (.sc (.bool (!b)))
  | .neg, .sc (.int k n) => K (.sc (.int k (k.wrap (0 - n))))
  | _, _ => False
def bytesS (ns : List Int) : ByteArray := ns.foldl (fun r n => r.push (UInt8.ofNat n.toNat)) ByteArray.empty
def convK (P : Program) (src dst : TypeId) (x : V) (K : V → Prop) : Prop := match x with
  | .sc (.int _ n) => match P.underlying src, P.underlying dst with
    | some (.int _), some (.int k) => K (.sc (.int k (k.wrap n)))
    | _, _ => False
  | .sc (.string s) => match P.underlying src, P.underlying dst with
    | some .string, some .string => K (.sc (.string s))
    | _, _ => False
  | .sl _ es => ∃ te ns, P.underlying src = some (.slice te) ∧ P.underlying te = some (.int .u8) ∧ P.underlying dst = some .string ∧ es = ns.map (fun n => V.sc (.int .u8 n)) ∧ K (.sc (.string (bytesS ns)))
  | _ => False
def fillV (place : Nat → Option (Nat × Nat)) : List V → List (Nat × V) → Option (List V)
  | cs, [] => some cs
  | cs, (i, v) :: rest => match place i with
    | none => none
    | some (off, size) => if v.cells.length ≠ size || off + size > cs.length then none else fillV place (cs.take off ++ v.cells ++ cs.drop (off + size)) rest
def places (P : Program) (t : TypeId) : Option (List (Nat × Nat)) := match P.underlying t with
  | some (.struct fs) => fs.toList.mapM fun f => (P.info? f.type).map fun i => (f.offset, i.size)
  | _ => none
def placeF (P : Program) (t : TypeId) : Option (Nat → Option (Nat × Nat)) := match P.underlying t with
  | some (.struct _) => (places P t).map fun ps i => ps[i]?
  | some (.array _ e) => (P.info? e).map fun f i => some (i * f.size, f.size)
  | _ => none
def mpv (P : Program) (t : TypeId) : Option (TypeDesc × TypeId) := match P.underlying t with
  | some (.map k e) => match P.underlying k with
    | some (.int q) => some (.int q, e)
    | some .string => some (.string, e)
    | _ => none
  | _ => none
def mfind (kd : TypeDesc) (k : Value) : List Value → Nat → Option (Option Nat)
  | [], _ => some none
  | x :: xs, i => match Instr.sameNow kd k x with
    | some true => some (some i)
    | some false => mfind kd k xs (i + 1)
    | none => none
def mview (H : Heap) : V → Option (List Value × List V)
  | .dmp ks vs => some (ks, vs)
  | .mp id => match look H id with
    | some (.map ks vs) => some (ks, vs)
    | _ => none
  | .sc (.map none) => some ([], [])
  | _ => none
def mgot (z : V) (vs : List V) (r : Option Nat) (ok : Bool) : V :=
  let v := match r with | some i => vs.getD i .any | none => z
  if ok then .tup [v, .b r.isSome] else v
def Stride (sz : Nat) (es : List V) : Prop := ∀ v ∈ es, v.cells.length = sz
def valK (P : Program) (op : Op) (e : Operand → V) (H : Heap) (K : V → Prop) : Prop := match op with
  | .move x => K (e x)
  | .assign x => K (e x)
  | .pick c a b => match e c with
    | .sc (.bool t) => K (if t then e a else e b)
    | _ => False
  | .load t x => match tyv P t with
    | some (ag, n) => match e x with
      | .pt v => n ≤ v.cells.length ∧ (0 < n ∨ ag = true) ∧ K (v.sub ag 0 n)
      | .ptr id i fo => match look H id with
        | some o => i < o.len ∧ fo + n ≤ (o.elem i).cells.length ∧ (0 < n ∨ ag = true) ∧ K ((o.elem i).sub ag fo n)
        | none => False
      | _ => False
    | none => False
  | .nilCheck x => match e x with
    | .pt v => K (.pt v)
    | .ptr id i fo => K (.ptr id i fo)
    | _ => False
  | .binOp op t x y _ => binK P op t (e x) (e y) K
  | .unOp op _ x => unK op (e x) K
  | .convert src dst x => convK P src dst (e x) K
  | .fieldAddr t x f => match fldv P t f with
    | some (off, ag, n) => match e x with
      | .pt v => off + n ≤ v.cells.length ∧ V.fits ag n (v.sub ag off n) ∧ K (.pt (v.sub ag off n))
      | .ptr id i fo => K (.ptr id i (fo + off))
      | .sc (.pointer (some ⟨g, a, none⟩)) => K (.sc (.pointer (some ⟨g, a + off, none⟩)))
      | _ => False
    | none => False
  | .field t x f => match fldv P t f with
    | some (off, ag, n) => match e x with
      | .agg cs => off + n ≤ cs.length ∧ K ((V.agg cs).sub ag off n)
      | _ => False
    | none => False
  | .indexAddr t x i => match slv P t with
    | some (_, sz, _) => match e x, e i with
      | .sl _ es, .sc (.int _ j) => (0 ≤ j ∧ j < es.length) ∧ (es.getD j.toNat .any).cells.length = sz ∧ K (.pt (es.getD j.toNat .any))
      | .own id, .sc (.int _ j) => match look H id with
        | some (.lst _ sz' es) => sz' = sz ∧ (0 ≤ j ∧ j < es.length) ∧ K (.ptr id j.toNat 0)
        | _ => False
      | .vw id off len _, .sc (.int _ j) => match look H id with
        | some (.row _ sz' es) => sz' = sz ∧ (0 ≤ j ∧ j < len) ∧ K (.ptr id (off + j.toNat) 0)
        | _ => False
      | .sc (.slice (some ⟨g, a, none⟩) len _), .sc (.int _ j) => (0 ≤ j ∧ j < len) ∧ K (.sc (.pointer (some ⟨g, a + j.toNat * sz, none⟩)))
      | _, _ => False
    | none => match arv P t with
      | some (n, ag, sz) => match e x, e i with
        | .ptr id k fo, .sc (.int _ j) => 2 ≤ n ∧ (0 ≤ j ∧ j < n) ∧ K (.ptr id k (fo + j.toNat * sz))
        | .pt v, .sc (.int _ j) => 2 ≤ n ∧ 0 < sz ∧ n * sz = v.cells.length ∧ (0 ≤ j ∧ j < n) ∧ V.fits ag sz (v.sub ag (j.toNat * sz) sz) ∧ K (.pt (v.sub ag (j.toNat * sz) sz))
        | _, _ => False
      | none => False
  | .index t x i => match arv P t with
    | some (n, ag, sz) => match e x, e i with
      | .agg cs, .sc (.int _ j) => (0 ≤ j ∧ j < n) ∧ 0 < sz ∧ n * sz = cs.length ∧ K ((V.agg cs).sub ag (j.toNat * sz) sz)
      | _, _ => False
    | none => match P.underlying t with
      | some .string => match e x, e i with
        | .sc (.string s), .sc (.int _ j) => ∃ h : j.toNat < s.size, 0 ≤ j ∧ K (.sc (.int .u8 (s[j.toNat]'h).toNat))
        | _, _ => False
      | _ => False
  | .lookup t x ix ok => match mpv P t with
    | some (kd, te) => match zv P te, mview H (e x), e ix with
      | some z, some (ks, vs), .sc k => match mfind kd k ks 0 with
        | some r => K (mgot z vs r ok)
        | none => False
      | _, _, _ => False
    | none => False
  | .extract x n => match e x with
    | .tup vs => n < vs.length ∧ K (vs.getD n .any)
    | _ => False
  | .build t parts => match placeF P t, zv P t with
    | some pf, some (.agg z) => match fillV pf z (parts.toList.map fun p => (p.1, e p.2)) with
      | some cs => (parts.toList.all fun p => (e p.2).okCells) = true ∧ K (.agg cs)
      | none => False
    | _, _ => False
  | .call { callee := .builtin .len, args, argTypes } => match args.toList, argTypes.toList with
    | [x], [t] => match e x with
      | .sl _ es => (slv P t).isSome = true ∧ K (.sc (.int .i64 es.length))
      | .own id => match look H id with
        | some (.lst _ _ es) => (slv P t).isSome = true ∧ K (.sc (.int .i64 es.length))
        | _ => False
      | .vw _ _ len _ => (slv P t).isSome = true ∧ K (.sc (.int .i64 len))
      | .sc (.string s) => P.underlying t = some .string ∧ K (.sc (.int .i64 s.size))
      | .sc (.slice none 0 0) => (slv P t).isSome = true ∧ K (.sc (.int .i64 0))
      | _ => False
    | _, _ => False
  | .call { callee := .builtin .cap, args, argTypes } => match args.toList, argTypes.toList with
    | [x], [t] => match e x with
      | .vw _ _ _ cap => (slv P t).isSome = true ∧ K (.sc (.int .i64 cap))
      | .sl true es => (slv P t).isSome = true ∧ K (.sc (.int .i64 es.length))
      | .sc (.slice none 0 0) => (slv P t).isSome = true ∧ K (.sc (.int .i64 (0 : Nat)))
      | _ => False
    | _, _ => False
  | .call { callee := .builtin .max, args, argTypes } => match args.toList with
    | [x, y] => match e x, e y with
      | .sc (.int k a), .sc (.int _ b) => K (.sc (.int k (if a < b then b else a)))
      | _, _ => False
    | _ => False
  | .call { callee := .builtin .min, args, argTypes } => match args.toList with
    | [x, y] => match e x, e y with
      | .sc (.int k a), .sc (.int _ b) => K (.sc (.int k (if b < a then b else a)))
      | _, _ => False
    | _ => False
  | .makeFunc (.func f) first caps => (first = #[] ∧ K (.fn f (caps.toList.map e))) ∨ (caps = #[] ∧ ∃ xs : List Value, first.toList.map e = xs.map V.sc ∧ K (.sc (.func (.func f) xs.toArray #[])))
  | .slice t x lo hi mx => match slv P t with
    | some (_, sz, _) => match e x with
      | .sl full es => match (lo.map e), (hi.map e), (mx.map e) with
        | none, none, none => K (.sl full es)
        | some (.sc (.int _ l)), none, none => (0 ≤ l ∧ l ≤ es.length) ∧ Stride sz es ∧ K (.sl full (es.drop l.toNat))
        | none, some (.sc (.int _ h)), none => (0 ≤ h ∧ h ≤ es.length) ∧ K (.sl false (es.take h.toNat))
        | some (.sc (.int _ l)), some (.sc (.int _ h)), none => (0 ≤ l ∧ l ≤ h ∧ h ≤ es.length) ∧ Stride sz es ∧ K (.sl false ((es.take h.toNat).drop l.toNat))
        | none, some (.sc (.int _ h)), some (.sc (.int _ m)) => (0 ≤ h ∧ h = m ∧ h ≤ es.length) ∧ K (.sl true (es.take h.toNat))
        | _, _, _ => False
      | .own id => match look H id with
        | some (.lst _ _ es) => match (lo.map e), (hi.map e), (mx.map e) with
          | some (.sc (.int _ l)), none, none => (0 ≤ l ∧ l ≤ es.length) ∧ K .junk
          | _, _, _ => False
        | _ => False
      | .vw id off len cap => match look H id with
        | some (.row _ sz' es) => sz' = sz ∧ match (lo.map e), (hi.map e), (mx.map e) with
          | none, none, none => K (.vw id off len cap)
          | some (.sc (.int _ l)), none, none => (0 ≤ l ∧ l ≤ len) ∧ K (.vw id (if cap = l.toNat then off else off + l.toNat) (len - l.toNat) (cap - l.toNat))
          | none, some (.sc (.int _ h)), none => (0 ≤ h ∧ h ≤ cap) ∧ K (.vw id off h.toNat cap)
          | some (.sc (.int _ l)), some (.sc (.int _ h)), none => (0 ≤ l ∧ l ≤ h ∧ h ≤ cap) ∧ K (.vw id (if cap = l.toNat then off else off + l.toNat) (h.toNat - l.toNat) (cap - l.toNat))
          | _, _, _ => False
        | _ => False
      | _ => False
    | none => match P.underlying t with
      | some .string => match e x with
        | .sc (.string s) => match (lo.map e), (hi.map e), (mx.map e) with
          | some (.sc (.int _ l)), none, none => (0 ≤ l ∧ l ≤ s.size) ∧ K (.sc (.string (s.extract l.toNat s.size)))
          | none, some (.sc (.int _ h)), none => (0 ≤ h ∧ h ≤ s.size) ∧ K (.sc (.string (s.extract 0 h.toNat)))
          | some (.sc (.int _ l)), some (.sc (.int _ h)), none => (0 ≤ l ∧ l ≤ h ∧ h ≤ s.size) ∧ K (.sc (.string (s.extract l.toNat h.toNat)))
          | _, _, _ => False
        | _ => False
      | _ => False
  | _ => False
end Go.AM
namespace Go.AM
theorem addr_add (g a k : Nat) : (⟨g, a, none⟩ : Addr).add k = ⟨g, a + k, none⟩ := by unfold Addr.add; split <;> simp_all
theorem run_loadVar {P : Program} {t : TypeId} {ag : Bool} {n : Nat} (ht : tyv P t = some (ag, n)) {w : World} {g a : Nat} {f : Nat → Value}
    (hc : ∀ k, k < n → w.cell? ⟨g, a + k, none⟩ = some (f k)) (h0 : 0 < n ∨ ag = true) :
    (loadVar t ⟨g, a, none⟩).run P w = .ok (if ag then .agg ((List.range n).map f).toArray else f 0) w := by
  obtain ⟨h1, h2⟩ := tyv_run ht w
  unfold loadVar
  rw [Sem.run_bind, h1]
  simp only [Result.andThen_ok]
  cases ag with
  | true =>
    simp only [if_true]
    rw [Sem.run_bind, h2]
    simp only [Result.andThen_ok]
    rw [Sem.run_bind, run_loadCells w _ n f (fun k hk => by rw [addr_add]; exact hc k hk)]
    simp
  | false =>
    simp only [Bool.false_eq_true, if_false]
    have := hc 0 (by simpa using h0)
    simp only [Nat.add_zero] at this
    rw [run_load, this]
section
variable {P : Program} {w : World} {O : Nat → Prop} {H : Heap} {loc : Nat → Value}
theorem rel_range {E : Env} {f : Nat → Value} {cs : List V} {n : Nat} (hn : n ≤ cs.length) (hr : ∀ j, j < n → Rel E (f j) (cs.getD j .any)) : Rel E (.agg ((List.range n).map f).toArray) (.agg (cs.take n)) := by
  refine Rel.agg_iff.2 ⟨_, rfl, by simp; omega, fun i hi => ?_⟩
  have hi' : i < n := by simp at hi; omega
  have e1 : ((List.range n).map f).getD i undef = f i := by simp [List.getD_eq_getElem?_getD, hi']
  have e2 : (cs.take n).getD i .any = cs.getD i .any := by simp [List.getD_eq_getElem?_getD, List.getElem?_take, hi']
  simp only [e1, e2]
  exact hr i hi'
theorem ObjOK.elem_cells {E : Env} {id : Nat} {o : Obj} (h : ObjOK E id o) {g : Nat} (hg : blk (E.loc id) = some g) {i : Nat} (hi : i < o.len) :
    ∃ f : Nat → Value, (∀ k, k < (o.elem i).cells.length → E.w.cell? ⟨g, i * o.sz + k, none⟩ = some (f k)) ∧ (∀ k, k < (o.elem i).cells.length → Rel E (f k) ((o.elem i).cells.getD k .any)) := by
  cases o with
  | var t v =>
    obtain ⟨g', arr, e, hh, hr⟩ := h
    rw [e] at hg; simp [blk] at hg; subst hg
    refine ⟨fun k => arr.getD k undef, fun k hk => ?_, fun k hk => by simpa [Array.getD_eq_getD_getElem?, List.getD_eq_getElem?_getD, Obj.elem] using hr.2 k hk⟩
    have hk' : k < arr.size := by have := hr.1; simp at this; simp only [Obj.elem] at hk; omega
    rw [cell_of_row E.w g' _ arr t (0, 0) hh]
    simp [Obj.sz, Array.getD_eq_getD_getElem?, hk']
  | lst t sz es =>
    obtain ⟨hz, xs, ho, hf1, hf2⟩ := h
    have hi' : i < es.length := hi
    have hn : (E.loc id).ownBlock = some g := by
      rcases ho.2 with ⟨e, _⟩ | ⟨g', cap, cur, e, _⟩
      · rw [e] at hg; simp [blk] at hg
      · rw [e] at hg ⊢; exact hg
    refine ⟨fun k => xs.getD (i * sz + k) undef, fun k hk => ?_, fun k hk => ?_⟩
    · have hk' : k < sz := by have := hf1 i hi'; simp only [Obj.elem] at hk; omega
      have hb : i * sz + k < xs.length := by
        rw [ho.1]
        have : (i + 1) * sz ≤ es.length * sz := Nat.mul_le_mul_right _ hi'
        rw [Nat.add_mul] at this; omega
      have := ho.cells hn (i * sz + k) (xs.getD (i * sz + k) undef) (by simp [List.getD_eq_getElem?_getD, List.getElem?_eq_getElem hb])
      rw [addr_add] at this
      simpa [Obj.sz] using this
    · have hk' : k < sz := by have := hf1 i hi'; simp only [Obj.elem] at hk; omega
      exact hf2 i k hi' hk'
  | row t sz es =>
    obtain ⟨hz, g', arr, e, hh, hs, hm, hf1, hf2⟩ := h
    have hi' : i < es.length := hi
    rw [e] at hg; simp [blk] at hg; subst hg
    refine ⟨fun k => arr.getD (i * sz + k) undef, fun k hk => ?_, fun k hk => ?_⟩
    · have hk' : k < sz := by have := hf1 i hi'; simp only [Obj.elem] at hk; omega
      have hb : i * sz + k < arr.size := by
        rw [hs]
        have : (i + 1) * sz ≤ es.length * sz := Nat.mul_le_mul_right _ hi'
        rw [Nat.add_mul] at this; omega
      rw [cell_of_row E.w g' _ arr t (0, 0) hh]
      simp [Obj.sz, Array.getD_eq_getD_getElem?, hb]
    · have hk' : k < sz := by have := hf1 i hi'; simp only [Obj.elem] at hk; omega
      exact hf2 i k hi' hk'
  | map ks vs => simp [Obj.len] at hi
  | gho x v => simp [Obj.len] at hi
theorem load_sound {ty : TypeId} {ag : Bool} {n : Nat} (ht : tyv P ty = some (ag, n)) {x : Value} {p v : V} {fo : Nat} (h0 : 0 < n ∨ ag = true)
    (hx : (p = .pt v ∧ fo = 0 ∧ n ≤ v.cells.length) ∨ ∃ id i o, p = .ptr id i fo ∧ look H id = some o ∧ i < o.len ∧ v = o.elem i ∧ fo + n ≤ (o.elem i).cells.length)
    (hr : Rel (env w O H loc) x p) (hobj : ∀ id o, look H id = some o → ObjOK (env w O H loc) id o) :
    ∃ y, (Instr.loadAt ty x).run P w = .ok y w ∧ Rel (env w O H loc) y (v.sub ag fo n) := by
  have key : ∀ (g a : Nat) (f : Nat → Value), x = .pointer (some ⟨g, a, none⟩) → (∀ k, k < n → w.cell? ⟨g, a + k, none⟩ = some (f k)) →
      (∀ j, j < n → Rel (env w O H loc) (f j) ((v.cells.drop fo).getD j .any)) → n ≤ (v.cells.drop fo).length →
      ∃ y, (Instr.loadAt ty x).run P w = .ok y w ∧ Rel (env w O H loc) y (v.sub ag fo n) := by
    intro g a f he hc hrel hl
    subst he
    refine ⟨_, by simp only [Instr.loadAt, Instr.sureAddr, Sem.run_bind, Sem.run_pure, Result.andThen_ok]; exact run_loadVar ht hc h0, ?_⟩
    unfold V.sub
    cases ag with
    | true => simp only [if_true]; exact rel_range hl hrel
    | false =>
      simp only [Bool.false_eq_true, if_false]
      have := hrel 0 (by simpa using h0)
      simpa [List.getD_eq_getElem?_getD] using this
  rcases hx with ⟨rfl, rfl, hn⟩ | ⟨id, i, o, rfl, ho, hi, rfl, hn⟩
  · cases hr with
    | pt v g off f a1 a2 a3 a4 =>
      exact key g off f rfl (fun k hk => a3 k (by omega)) (fun j hj => by simpa using a4 j (by omega)) (by simpa using hn)
  · cases hr with
    | ptr _ _ _ o' g a1 a2 =>
      have : o' = o := by have : look H id = some o' := a1; rw [ho] at this; cases this; rfl
      subst this
      obtain ⟨f, h1, h2⟩ := (hobj id o' ho).elem_cells a2 hi
      refine key g _ (fun k => f (fo + k)) rfl (fun k hk => ?_) (fun j hj => ?_) (by simp; omega)
      · have := h1 (fo + k) (by omega)
        rw [Nat.add_assoc]; exact this
      · have := h2 (fo + j) (by omega)
        simpa [List.getD_eq_getElem?_getD, List.getElem?_drop] using this
theorem rel_getD {E : Env} {arr : Array Value} {cs : List V} (h : RelL E arr.toList cs) (i : Nat) : Rel E (arr.getD i undef) (cs.getD i .any) := by
  simpa [Array.getD_eq_getD_getElem?, List.getD_eq_getElem?_getD] using h.getD i
theorem part_sound {E : Env} {ty : TypeId} {ag : Bool} {n : Nat} (ht : tyv P ty = some (ag, n)) {arr : Array Value} {cs : List V} {off : Nat} (hr : RelL E arr.toList cs) (hn : off + n ≤ cs.length) (h0 : 0 < n) (w : World) :
    ∃ y, (part ty arr off).run P w = .ok y w ∧ Rel E y ((V.agg cs).sub ag off n) := by
  obtain ⟨h1, h2⟩ := tyv_run ht w
  have hsz : arr.size = cs.length := by have := hr.1; simpa using this
  unfold part V.sub
  rw [Sem.run_bind, h1]
  simp only [Result.andThen_ok, V.cells]
  cases ag with
  | true =>
    simp only [if_true]
    rw [Sem.run_bind, h2]
    simp only [Result.andThen_ok, Sem.run_pure]
    refine ⟨_, rfl, Rel.agg_iff.2 ⟨_, rfl, ?_⟩⟩
    refine ⟨by simp; omega, fun i hi => ?_⟩
    have hi' : i < n := by simp at hi; omega
    have := hr.2 (off + i) (by omega)
    have e1 : ((arr.extract off (off + n)).toList).getD i undef = arr.toList.getD (off + i) undef := by
      simp [List.getD_eq_getElem?_getD, List.getElem?_take, List.getElem?_drop, hi']
    have e2 : ((cs.drop off).take n).getD i .any = cs.getD (off + i) .any := by
      simp [List.getD_eq_getElem?_getD, List.getElem?_take, List.getElem?_drop, hi']
    simp only [e1, e2]; exact this
  | false =>
    simp only [Bool.false_eq_true, if_false]
    have hlt : off < arr.size := by omega
    have e : arr[off]? = some (arr.getD off undef) := by simp [Array.getD_eq_getD_getElem?, hlt]
    refine ⟨arr.getD off undef, by rw [e]; rfl, rel_getD hr off⟩
theorem cmp_sound {op : BinOp} {a b : Int} {K : V → Prop} (h : cmpK op a b K) {E : Env} {w : World} : ∃ y v, (Op.intCmp op a b).run P w = .ok y w ∧ Rel E y v ∧ K v := by
  cases op <;> simp only [cmpK] at h <;> first
    | exact h.elim
    | exact ⟨_, _, rfl, .sc _, by first | exact h | (rw [show (a == b) = decide (a = b) from (by by_cases e : a = b <;> simp [e])]; exact h) | (rw [show (a != b) = !decide (a = b) from (by by_cases e : a = b <;> simp [e])]; exact h)⟩
theorem int_sound {op : BinOp} {k k' : IntKind} {a b : Int} {K : V → Prop} (h : intK op k k' a b K) {E : Env} {t : TypeId} {w : World} :
    ∃ y v, (binOp op t (.int k a) (.int k' b)).run P w = .ok y w ∧ Rel E y v ∧ K v := by
  cases op <;> simp only [intK] at h
  case add => obtain ⟨rfl, h⟩ := h; exact ⟨_, _, by simp [binOp, Op.intArith], .sc _, h⟩
  case sub => obtain ⟨rfl, h⟩ := h; exact ⟨_, _, by simp [binOp, Op.intArith], .sc _, h⟩
  case mul => obtain ⟨rfl, h⟩ := h; exact ⟨_, _, by simp [binOp, Op.intArith], .sc _, h⟩
  case quo => obtain ⟨rfl, h0, h⟩ := h; exact ⟨_, _, by simp [binOp, Op.intDiv, h0], .sc _, h⟩
  case rem => obtain ⟨rfl, h0, h⟩ := h; exact ⟨_, _, by simp [binOp, Op.intDiv, h0], .sc _, h⟩
  case and => obtain ⟨rfl, h⟩ := h; exact ⟨_, _, by simp [binOp, Op.intBits], .sc _, h⟩
  case or => obtain ⟨rfl, h⟩ := h; exact ⟨_, _, by simp [binOp, Op.intBits], .sc _, h⟩
  case xor => obtain ⟨rfl, h⟩ := h; exact ⟨_, _, by simp [binOp, Op.intBits], .sc _, h⟩
  case andNot => obtain ⟨rfl, h⟩ := h; exact ⟨_, _, by simp [binOp, Op.intBits], .sc _, h⟩
  case shl => obtain ⟨h0, h⟩ := h; exact ⟨_, _, by simp [binOp, Op.shift, show ¬ b < 0 by omega], .sc _, h⟩
  case shr => obtain ⟨h0, h⟩ := h; exact ⟨_, _, by simp [binOp, Op.shift, show ¬ b < 0 by omega], .sc _, h⟩
  all_goals
    obtain ⟨rfl, h⟩ := h
    simpa [binOp] using cmp_sound (P := P) h (E := E) (w := w)
end
end Go.AM
namespace Go.AM
section
variable {P : Program} {w : World} {O : Nat → Prop} {H : Heap} {loc : Nat → Value}
theorem rel_sl_len {E : Env} {x : Value} {full : Bool} {es : List V} (h : Rel E x (.sl full es)) : ∃ a c, x = .slice a es.length c ∧ es.length ≤ c ∧ c ≤ maxLen ∧ (full = true → c = es.length) := by
  cases h with
  | nil _ a c h1 h2 => exact ⟨a, c, rfl, Nat.zero_le _, h2, h1⟩
  | sl _ _ g off c sz f a1 a2 a3 a4 a5 a6 a7 a8 a9 => exact ⟨_, c, rfl, a2, a3, a4⟩
theorem rel_sl_elem {E : Env} {x : Value} {full : Bool} {es : List V} (h : Rel E x (.sl full es)) (h0 : es ≠ []) :
    ∃ g off c sz, x = .slice (some ⟨g, off, none⟩) es.length c ∧ es.length ≤ c ∧ c ≤ maxLen ∧ (full = true → c = es.length) ∧ 0 < sz ∧ (∀ i, i < es.length → (es.getD i .any).cells.length = sz) ∧
      (∀ i, i < es.length → Rel E (.pointer (some ⟨g, off + i * sz, none⟩)) (.pt (es.getD i .any))) ∧
      (∀ l n, l + n ≤ es.length → ∀ c', n ≤ c' → c' ≤ maxLen → ∀ full', (full' = true → c' = n) → 0 < n → Rel E (.slice (some ⟨g, off + l * sz, none⟩) n c') (.sl full' ((es.drop l).take n))) := by
  cases h with
  | nil _ a c h1 h2 => exact absurd rfl h0
  | sl _ _ g off c sz f a1 a2 a3 a4 a5 a6 a7 a8 a9 =>
    refine ⟨g, off, c, sz, rfl, a2, a3, a4, a6, a7, fun i hi => ?_, fun l n hln c' hc1 hc2 full' hf hn => ?_⟩
    · have hl := a7 i hi
      refine .pt _ g _ (fun k => f (i * sz + k)) (V.dataL_getD a1 i) a5 (fun k hk => ?_) (fun j hj => a9 i j hi (by omega))
      have hb : i * sz + k < es.length * sz := by
        have : (i + 1) * sz ≤ es.length * sz := Nat.mul_le_mul_right _ hi
        rw [Nat.add_mul] at this; omega
      have := a8 _ hb
      rw [Nat.add_assoc]; exact this
    · have hlen : ((es.drop l).take n).length = n := by simp; omega
      have hget : ∀ i, i < n → ((es.drop l).take n).getD i .any = es.getD (l + i) .any := fun i hi => by
        simp [List.getD_eq_getElem?_getD, List.getElem?_take, List.getElem?_drop, hi]
      have hd : V.dataL ((es.drop l).take n) = true := by
        rw [V.dataL_iff] at a1 ⊢
        exact fun v hv => a1 v (List.mem_of_mem_drop (List.mem_of_mem_take hv))
      have key := Rel.sl (E := E) full' ((es.drop l).take n) g (off + l * sz) c' sz (fun k => f (l * sz + k)) hd (by omega) hc2 (by rw [hlen]; exact hf) a5 a6
        (fun i hi => by rw [hlen] at hi; rw [hget i hi]; exact a7 _ (by omega))
        (fun k hk => by
          rw [hlen] at hk
          have hb : l * sz + k < es.length * sz := by
            have : (l + n) * sz ≤ es.length * sz := Nat.mul_le_mul_right _ hln
            rw [Nat.add_mul] at this; omega
          have := a8 _ hb
          rw [Nat.add_assoc]; exact this)
        (fun i j hi hj => by
          rw [hlen] at hi; rw [hget i hi]
          have := a9 (l + i) j (by omega) hj
          rw [Nat.add_mul, Nat.add_assoc] at this
          exact this)
      rw [hlen] at key
      exact key
theorem Rel.pt_inv {E : Env} {x : Value} {v : V} (h : Rel E x (.pt v)) : ∃ (g off : Nat) (f : Nat → Value), x = .pointer (some ⟨g, off, none⟩) ∧ V.data v = true ∧ E.F g ∧
    (∀ k, k < v.cells.length → E.w.cell? ⟨g, off + k, none⟩ = some (f k)) ∧ (∀ j, j < v.cells.length → Rel E (f j) (v.cells.getD j .any)) := by
  cases h with
  | pt _ g off f a1 a2 a3 a4 => exact ⟨g, off, f, rfl, a1, a2, a3, a4⟩
theorem Rel.ptr_inv {E : Env} {x : Value} {id i fo : Nat} (h : Rel E x (.ptr id i fo)) : ∃ o g, x = .pointer (some ⟨g, i * o.sz + fo, none⟩) ∧ E.obj id = some o ∧ blk (E.loc id) = some g := by
  cases h with
  | ptr _ _ _ o g a1 a2 => exact ⟨o, g, rfl, a1, a2⟩
theorem rel_pt_sub {E : Env} {v : V} {g o off n : Nat} {ag : Bool} (hr : Rel E (.pointer (some ⟨g, o, none⟩)) (.pt v)) (hl : off + n ≤ v.cells.length) (hfit : V.fits ag n (v.sub ag off n)) :
    Rel E (.pointer (some ⟨g, o + off, none⟩)) (.pt (v.sub ag off n)) := by
  obtain ⟨g', o', fv, hx, a1, a2, a3, a4⟩ := hr.pt_inv
  cases hx
  · have hc := hfit.len
    have hcell : ∀ j, j < n → (v.sub ag off n).cells.getD j .any = v.cells.getD (off + j) .any := by
      intro j hj
      unfold V.sub V.fits at hfit
      unfold V.sub
      cases ag with
      | true => simp [V.cells, List.getD_eq_getElem?_getD, List.getElem?_take, List.getElem?_drop, hj]
      | false =>
        simp only [Bool.false_eq_true, if_false] at hfit ⊢
        obtain ⟨h1, h2⟩ := hfit
        have h3 : j = 0 := by omega
        subst h3
        rw [h2, Nat.add_zero]; rfl
    refine .pt _ g _ (fun k => fv (off + k)) ?_ a2 (fun k hk => ?_) (fun j hj => ?_)
    · unfold V.sub
      cases ag with
      | true =>
        simp only [if_true, V.data]
        have hd := V.data_cells a1
        rw [V.dataL_iff] at hd ⊢
        exact fun u hu => hd u (List.mem_of_mem_drop (List.mem_of_mem_take hu))
      | false => simp only [Bool.false_eq_true, if_false]; exact V.dataL_getD (V.data_cells a1) _
    · rw [hc] at hk; rw [Nat.add_assoc]; exact a3 _ (by omega)
    · rw [hc] at hj; rw [hcell j hj]; exact a4 _ (by omega)
theorem fieldAddr_sound {t : TypeId} {f off n : Nat} {ag : Bool} (hf : fldv P t f = some (off, ag, n)) {x : Value} {p q : V} (hr : Rel (env w O H loc) x p)
    (hq : (∃ v, p = .pt v ∧ off + n ≤ v.cells.length ∧ V.fits ag n (v.sub ag off n) ∧ q = .pt (v.sub ag off n)) ∨ (∃ id i fo, p = .ptr id i fo ∧ q = .ptr id i (fo + off)) ∨ ∃ g a, p = .sc (.pointer (some ⟨g, a, none⟩)) ∧ q = .sc (.pointer (some ⟨g, a + off, none⟩))) :
    ∃ y, (Instr.fieldAt t x f).run P w = .ok y w ∧ Rel (env w O H loc) y q := by
  obtain ⟨fs, fd, hu, hfd, rfl, ht, hn⟩ := fldv_run hf
  obtain ⟨t1, t2⟩ := tyv_run ht w
  have key : ∀ g a, x = .pointer (some ⟨g, a, none⟩) → (Instr.fieldAt t x f).run P w = .ok (.pointer (some ⟨g, a + fd.offset, none⟩)) w := by
    rintro g a rfl
    simp only [Instr.fieldAt, Sem.run_bind, run_underlying hu, Result.andThen_ok, hfd, Instr.sureAddr, Sem.run_pure, fieldPlace, t2]
    rw [if_neg (by omega)]
    simp [addr_add]
  rcases hq with ⟨v, rfl, hl, hfit, rfl⟩ | ⟨id, i, fo, rfl, rfl⟩ | ⟨g, a, rfl, rfl⟩
  · obtain ⟨g, o, fv, rfl, _⟩ := hr.pt_inv
    exact ⟨_, key g o rfl, rel_pt_sub hr hl hfit⟩
  · obtain ⟨o, g, rfl, a1, a2⟩ := hr.ptr_inv
    refine ⟨_, key g _ rfl, ?_⟩
    rw [Nat.add_assoc]
    exact .ptr id i (fo + fd.offset) o g a1 a2
  · exact ⟨_, key g a (Rel.sc_iff.1 hr), .sc _⟩
theorem indexAt_slice_run {t e : TypeId} {sz by_ : Nat} (ht : slv P t = some (e, sz, by_)) {g a n c : Nat} {k : IntKind} {j : Int} (hj : 0 ≤ j ∧ j < n) :
    (Instr.indexAt t (.slice (some ⟨g, a, none⟩) n c) (.int k j)).run P w = .ok (.pointer (some ⟨g, a + j.toNat * sz, none⟩)) w := by
  obtain ⟨hu, i, hi, hs, _⟩ := slv_run ht
  simp [Instr.indexAt, asIntOf, Sem.run_bind, run_underlying hu, hj, sizeOf, typeInfo, hi, hs, addr_add]
theorem blk_own {E : Env} {id : Nat} {t : TypeId} {sz : Nat} {es : List V} (h : ObjOK E id (.lst t sz es)) :
    (∃ g c, E.loc id = .slice (some ⟨g, 0, none⟩) es.length c ∧ es.length ≤ c ∧ c ≤ maxLen) ∨ (E.loc id = .slice none 0 0 ∧ es.length = 0) := by
  obtain ⟨hz, xs, ho, hf⟩ := h
  rcases ho.2 with ⟨e, h0⟩ | ⟨g, cap, cur, e, h1, h2, h3, h4, _⟩
  · exact .inr ⟨e, h0⟩
  · exact .inl ⟨g, cap, e, h3, h4⟩
theorem Rel.own_inv {E : Env} {x : Value} {id : Nat} (h : Rel E x (.own id)) : x = E.loc id ∧ ∃ o, E.obj id = some o ∧ isLst o = true := by
  cases h with
  | own _ o a1 a2 a3 => exact ⟨rfl, o, a1, a2⟩
theorem Rel.vw_inv {E : Env} {x : Value} {id off len cap : Nat} (h : Rel E x (.vw id off len cap)) : ∃ o g, x = .slice (some ⟨g, off * o.sz, none⟩) len cap ∧ E.obj id = some o ∧ isRow o = true ∧ blk (E.loc id) = some g ∧ len ≤ cap := by
  cases h with
  | vw _ _ _ _ o g a1 a2 a3 a4 => exact ⟨o, g, rfl, a1, a2, a3, a4⟩
theorem indexAddr_sound {t : TypeId} {K : V → Prop} {xv yv : Value} {e : Operand → V} {a b : Operand} (h : valK P (.indexAddr t a b) e H K)
    (hx : Rel (env w O H loc) xv (e a)) (hy : Rel (env w O H loc) yv (e b)) (hobj : ∀ id o, look H id = some o → ObjOK (env w O H loc) id o) :
    ∃ z v, (Instr.indexAt t xv yv).run P w = .ok z w ∧ Rel (env w O H loc) z v ∧ K v := by
  simp only [valK] at h
  split at h
  · rename_i te sz by_ ht
    split at h
    · rename_i full es k j ea eb
      obtain ⟨hj, hsz, hK⟩ := h
      rw [ea] at hx; rw [eb] at hy
      cases hy
      have hne : es ≠ [] := by rintro rfl; simp at hj; omega
      obtain ⟨g, off, c, sz', rfl, h1, h2, h3, h4, h5, h6, h7⟩ := rel_sl_elem hx hne
      have hi : j.toNat < es.length := by omega
      have e1 : sz' = sz := by rw [← h5 _ hi]; exact hsz
      subst e1
      exact ⟨_, _, indexAt_slice_run ht hj, h6 _ hi, hK⟩
    · rename_i id k j ea eb
      split at h
      · rename_i t' sz' es ho
        obtain ⟨rfl, hj, hK⟩ := h
        rw [ea] at hx; rw [eb] at hy
        cases hy
        obtain ⟨rfl, _⟩ := hx.own_inv
        rcases blk_own (hobj id _ ho) with ⟨g, c, he, _⟩ | ⟨he, h0⟩
        · rw [he]
          refine ⟨_, _, indexAt_slice_run ht hj, ?_, hK⟩
          have := Rel.ptr (E := env w O H loc) id j.toNat 0 _ g ho (by rw [he]; rfl)
          simpa [Obj.sz] using this
        · omega
      · exact h.elim
    · rename_i id off len cap k j ea eb
      split at h
      · rename_i t' sz' es ho
        obtain ⟨rfl, hj, hK⟩ := h
        rw [ea] at hx; rw [eb] at hy
        cases hy
        obtain ⟨o, g, rfl, a1, a2, a3, a4⟩ := hx.vw_inv
        have : o = .row t' sz' es := by have : look H id = some o := a1; rw [ho] at this; cases this; rfl
        subst this
        refine ⟨_, _, indexAt_slice_run ht hj, ?_, hK⟩
        have := Rel.ptr (E := env w O H loc) id (off + j.toNat) 0 _ g ho a3
        simpa [Obj.sz, Nat.add_mul] using this
      · exact h.elim
    · rename_i g a len c k j ea eb
      obtain ⟨hj, hK⟩ := h
      rw [ea] at hx; rw [eb] at hy
      cases hx; cases hy
      exact ⟨_, _, indexAt_slice_run ht hj, .sc _, hK⟩
    · exact h.elim
  · split at h
    · rename_i n ag sz ht
      obtain ⟨el, hu, he⟩ := arv_run ht
      obtain ⟨t1, t2⟩ := tyv_run he w
      have run : ∀ g o k (j : Int), 2 ≤ n → (0 ≤ j ∧ j < n) → (Instr.indexAt t (.pointer (some ⟨g, o, none⟩)) (.int k j)).run P w = .ok (.pointer (some ⟨g, o + j.toNat * sz, none⟩)) w := by
        intro g o k j h2 hj
        simp [Instr.indexAt, asIntOf, Sem.run_bind, run_underlying hu, Instr.sureAddr, hj, t2, addr_add]
      split at h
      · rename_i id k fo k' j ea eb
        obtain ⟨h2, hj, hK⟩ := h
        rw [ea] at hx; rw [eb] at hy
        cases hy
        obtain ⟨o, g, rfl, a1, a2⟩ := hx.ptr_inv
        refine ⟨_, _, run g _ k' j h2 hj, ?_, hK⟩
        rw [Nat.add_assoc]
        exact .ptr id k _ o g a1 a2
      · rename_i v k' j ea eb
        obtain ⟨h2, hz, hl, hj, hfit, hK⟩ := h
        rw [ea] at hx; rw [eb] at hy
        cases hy
        obtain ⟨g, o, fv, rfl, _⟩ := hx.pt_inv
        refine ⟨_, _, run g _ k' j h2 hj, rel_pt_sub hx ?_ hfit, hK⟩
        have : (j.toNat + 1) * sz ≤ n * sz := Nat.mul_le_mul_right _ (by omega)
        rw [Nat.add_mul] at this; omega
      · exact h.elim
    · exact h.elim
end
end Go.AM
namespace Go.AM
section
variable {P : Program} {w : World} {O : Nat → Prop} {H : Heap} {loc : Nat → Value}
theorem slice_run {t e : TypeId} {sz by_ : Nat} (ht : slv P t = some (e, sz, by_)) : P.underlying t = some (.slice (P.elem t)) ∧ ∀ w, (sizeOf (P.elem t)).run P w = .ok sz w := by
  obtain ⟨hu, i, hi, hs, _⟩ := slv_run ht
  have e1 : P.elem t = e := by simp [Program.elem, hu]
  rw [e1]
  exact ⟨hu, fun w => by simp [sizeOf, typeInfo, hi, hs]⟩
theorem rel_sl_cut {E : Env} {x : Value} {full : Bool} {es : List V} (h : Rel E x (.sl full es)) {a : Option Addr} {c : Nat} (hx : x = .slice a es.length c) {sz : Nat}
    (hsz : ∀ i, i < es.length → (es.getD i .any).cells.length = sz) (l h' m : Nat) (h1 : l ≤ h') (h2 : h' ≤ es.length) (h3 : h' ≤ m) (h4 : m ≤ c) (full' : Bool) (hf : full' = true → m = h') :
    Rel E (sliced a l h' m sz) (.sl full' ((es.take h').drop l)) := by
  have hcm : c ≤ maxLen := by
    obtain ⟨a', c', e, _, hc, _⟩ := rel_sl_len h
    rw [e] at hx; cases hx; exact hc
  unfold sliced
  by_cases hn : h' - l = 0
  · have e1 : (es.take h').drop l = [] := by apply List.drop_eq_nil_of_le; simp; omega
    rw [e1, hn]
    exact .nil _ _ _ (fun e => by have := hf e; omega) (by simp only [maxLen] at hcm ⊢; omega)
  · have hne : es ≠ [] := by rintro rfl; simp at h2; omega
    obtain ⟨g, off, c', sz', e, k1, k2, k3, k4, k5, k6, k7⟩ := rel_sl_elem h hne
    have e0 : 0 < es.length := List.length_pos_iff.2 hne
    have es' : sz' = sz := by rw [← k5 0 e0, hsz 0 e0]
    subst es'
    rw [e] at hx; cases hx
    rw [if_neg (by omega : ¬ m = l)]
    simp only [Option.map_some, addr_add]
    have := k7 l (h' - l) (by omega) (m - l) (by omega) (by simp only [maxLen] at hcm ⊢; omega) full' (fun e => by have := hf e; omega) (by omega)
    have e2 : (es.take h').drop l = (es.drop l).take (h' - l) := by
      rw [List.drop_take]
    rw [e2]; exact this
theorem rel_vw {id off cap : Nat} {o : Obj} {g : Nat} {E : Env} (a1 : E.obj id = some o) (a2 : isRow o = true) (a3 : blk (E.loc id) = some g) (l h m sz : Nat) (hs : o.sz = sz) (hm : m = cap) (h1 : h ≤ cap) (h2 : l ≤ h) :
    Rel E (sliced (some ⟨g, off * sz, none⟩) l h m sz) (.vw id (if cap = l then off else off + l) (h - l) (cap - l)) := by
  subst hs; subst hm
  unfold sliced
  by_cases e : m = l
  · rw [if_pos e, if_pos e]; exact .vw id off _ _ o g a1 a2 a3 (by omega)
  · rw [if_neg e, if_neg e]
    simp only [Option.map_some, addr_add]
    rw [← Nat.add_mul]
    exact .vw id (off + l) _ _ o g a1 a2 a3 (by omega)
theorem opt_rel {e : Operand → V} {ρ : Operand → Value} {E : Env} (hρ : ∀ x, Rel E (ρ x) (e x)) {lo : Option Operand} {k : IntKind} {l : Int} (h : lo.map e = some (.sc (.int k l))) : lo.map ρ = some (.int k l) := by
  cases lo with
  | none => simp at h
  | some a =>
    simp only [Option.map_some, Option.some.injEq] at h ⊢
    have := hρ a
    rw [h] at this
    exact Rel.sc_iff.1 this
theorem opt_none {e : Operand → V} {ρ : Operand → Value} {lo : Option Operand} (h : lo.map e = none) : lo.map ρ = none := by cases lo <;> simp_all
theorem slice_sound {e : Operand → V} {ρ : Operand → Value} {K : V → Prop} {t : TypeId} {a : Operand} {lo hi mx : Option Operand} (h : valK P (.slice t a lo hi mx) e H K)
    (hρ : ∀ x, Rel (env w O H loc) (ρ x) (e x)) (hobj : ∀ id o, look H id = some o → ObjOK (env w O H loc) id o) :
    ∃ z v, (Instr.sliceAt t (ρ a) (lo.map ρ) (hi.map ρ) (mx.map ρ)).run P w = .ok z w ∧ Rel (env w O H loc) z v ∧ K v := by
  have hx := hρ a
  simp only [valK] at h
  split at h
  · rename_i te sz by_ ht
    obtain ⟨hu, hsz⟩ := slice_run ht
    rw [run_sliceAt_slice w t _ _ _ _ hu]
    split at h
    · rename_i full es ea
      rw [ea] at hx
      obtain ⟨ad, c, ex, hc, hcm, hcf⟩ := rel_sl_len hx
      have ex' := ex
      rw [ex]
      have strides : Stride sz es → ∀ i, i < es.length → (es.getD i .any).cells.length = sz := fun hs i hi => hs _ (by
        rw [List.getD_eq_getElem?_getD, List.getElem?_eq_getElem hi]; exact List.getElem_mem hi)
      have strides' : ∃ sz', ∀ i, i < es.length → (es.getD i .any).cells.length = sz' := by
        by_cases hne : es = []
        · subst hne; exact ⟨0, by simp⟩
        · obtain ⟨_, _, _, sz', _, _, _, _, _, k5, _⟩ := rel_sl_elem hx hne
          exact ⟨sz', k5⟩
      have zero : ∀ (n m s s' : Nat), sliced ad 0 n m s = sliced ad 0 n m s' := fun n m s s' => by unfold sliced; simp
      split at h
      · rename_i q1 q2 q3
        rw [opt_none q1, opt_none q2, opt_none q3]
        refine ⟨.slice ad es.length c, _, ?_, by rw [← ex]; exact hx, h⟩
        rw [run_slice_all w t ad _ _ hu, hsz]
        simp only [Result.andThen_ok]
        unfold sliced
        by_cases hc0 : c = 0
        · rw [if_pos hc0]; simp
        · rw [if_neg hc0]; simp only [Nat.zero_mul, Nat.sub_zero]
          cases ad <;> simp [Addr.add]
      · rename_i k l q1 q2 q3
        obtain ⟨hl, hs, hK⟩ := h
        rw [opt_rel hρ q1, opt_none q2, opt_none q3, run_slice_l w t ad _ _ hu k l hl.1 hl.2, hsz]
        refine ⟨_, _, rfl, ?_, hK⟩
        have := rel_sl_cut hx ex (strides hs) l.toNat es.length c (by omega) (Nat.le_refl _) hc (Nat.le_refl _) full hcf
        simpa using this
      · rename_i k l q1 q2 q3
        obtain ⟨hl, hK⟩ := h
        rw [opt_none q1, opt_rel hρ q2, opt_none q3, run_slice_h w t ad _ _ hu k l hl.1 (by omega), hsz]
        obtain ⟨sz', k5⟩ := strides'
        refine ⟨_, _, rfl, ?_, hK⟩
        rw [zero _ _ sz sz']
        have := rel_sl_cut hx ex k5 0 l.toNat c (by omega) (by omega) (by omega) (Nat.le_refl _) false (by simp)
        simpa using this
      · rename_i k l k' h' q1 q2 q3
        obtain ⟨hl, hs, hK⟩ := h
        rw [opt_rel hρ q1, opt_rel hρ q2, opt_none q3, run_slice_lh w t ad _ _ hu k k' l h' hl.1 hl.2.1 (by omega), hsz]
        exact ⟨_, _, rfl, rel_sl_cut hx ex (strides hs) l.toNat h'.toNat c (by omega) (by omega) (by omega) (Nat.le_refl _) false (by simp), hK⟩
      · rename_i k l k' m q1 q2 q3
        obtain ⟨⟨hl, rfl, hl2⟩, hK⟩ := h
        rw [opt_none q1, opt_rel hρ q2, opt_rel hρ q3, run_slice_hm w t ad _ _ hu k k' l l hl (Int.le_refl _) (by omega), hsz]
        obtain ⟨sz', k5⟩ := strides'
        refine ⟨_, _, rfl, ?_, hK⟩
        rw [zero _ _ sz sz']
        have := rel_sl_cut hx ex k5 0 l.toNat l.toNat (by omega) (by omega) (Nat.le_refl _) (by omega) true (by simp)
        simpa using this
      · exact h.elim
    · rename_i id ea
      rw [ea] at hx
      split at h
      · rename_i t' sz' es ho
        obtain ⟨ex, _⟩ := hx.own_inv
        rw [ex]
        have hob := hobj id _ ho
        split at h
        · rename_i k l q1 q2 q3
          obtain ⟨hl, hK⟩ := h
          rw [opt_rel hρ q1, opt_none q2, opt_none q3]
          rcases blk_own hob with ⟨g, c, ex', hc⟩ | ⟨ex', h0⟩
          · rw [ex', run_slice_l w t _ _ _ hu k l hl.1 hl.2, hsz]
            exact ⟨_, _, rfl, .junk _ rfl, hK⟩
          · rw [ex', run_slice_l w t _ _ _ hu k l hl.1 (by omega), hsz]
            exact ⟨_, _, rfl, .junk _ rfl, hK⟩
        · exact h.elim
      · exact h.elim
    · rename_i id off len cap ea
      rw [ea] at hx
      split at h
      · rename_i t' sz' es ho
        obtain ⟨rfl, h⟩ := h
        obtain ⟨o, g, ex, a1, a2, a3, a4⟩ := hx.vw_inv
        have : o = .row t' sz' es := by have : look H id = some o := a1; rw [ho] at this; cases this; rfl
        subst this
        rw [ex]
        have hs : (Obj.row t' sz' es).sz = sz' := rfl
        split at h
        · rename_i q1 q2 q3
          rw [opt_none q1, opt_none q2, opt_none q3, run_slice_all w t _ _ _ hu, hsz]
          refine ⟨_, _, rfl, ?_, h⟩
          have := rel_vw (off := off) a1 a2 a3 0 len cap _ hs rfl a4 (Nat.zero_le _)
          simpa [Obj.sz] using this
        · rename_i k l q1 q2 q3
          obtain ⟨hl, hK⟩ := h
          rw [opt_rel hρ q1, opt_none q2, opt_none q3, run_slice_l w t _ _ _ hu k l hl.1 hl.2, hsz]
          exact ⟨_, _, rfl, rel_vw a1 a2 a3 l.toNat len cap _ hs rfl a4 (by omega), hK⟩
        · rename_i k l q1 q2 q3
          obtain ⟨hl, hK⟩ := h
          rw [opt_none q1, opt_rel hρ q2, opt_none q3, run_slice_h w t _ _ _ hu k l hl.1 hl.2, hsz]
          refine ⟨_, _, rfl, ?_, hK⟩
          have := rel_vw (off := off) a1 a2 a3 0 l.toNat cap _ hs rfl (by omega) (Nat.zero_le _)
          simpa [Obj.sz] using this
        · rename_i k l k' h' q1 q2 q3
          obtain ⟨hl, hK⟩ := h
          rw [opt_rel hρ q1, opt_rel hρ q2, opt_none q3, run_slice_lh w t _ _ _ hu k k' l h' hl.1 hl.2.1 hl.2.2, hsz]
          exact ⟨_, _, rfl, rel_vw a1 a2 a3 l.toNat h'.toNat cap _ hs rfl (by omega) (by omega), hK⟩
        · exact h.elim
      · exact h.elim
    · exact h.elim
  · split at h
    · rename_i hu
      rw [run_sliceAt_string w t _ _ _ _ hu]
      split at h
      · rename_i s ea
        rw [ea] at hx
        have ex := Rel.sc_iff.1 hx
        rw [ex]
        have sz : ∀ (l : Int), 0 ≤ l → ((l.toNat : Nat) : Int) = l := fun l h => Int.toNat_of_nonneg h
        split at h
        · rename_i k l q1 q2 q3
          obtain ⟨hl, hK⟩ := h
          rw [opt_rel hρ q1, opt_none q2, opt_none q3]
          refine ⟨_, _, ?_, .sc _, hK⟩
          simp [Instr.slice, run_underlying hu, Instr.sliceBounds, run_sliceBound, hl]
        · rename_i k l q1 q2 q3
          obtain ⟨hl, hK⟩ := h
          rw [opt_none q1, opt_rel hρ q2, opt_none q3]
          refine ⟨_, _, ?_, .sc _, hK⟩
          simp [Instr.slice, run_underlying hu, Instr.sliceBounds, run_sliceBound, hl]
        · rename_i k l k' h' q1 q2 q3
          obtain ⟨hl, hK⟩ := h
          rw [opt_rel hρ q1, opt_rel hρ q2, opt_none q3]
          refine ⟨_, _, ?_, .sc _, hK⟩
          simp [Instr.slice, run_underlying hu, Instr.sliceBounds, run_sliceBound, hl, sz h' (by omega), (by omega : 0 ≤ h')]
        · exact h.elim
      · exact h.elim
    · exact h.elim
theorem field_sound {e : Operand → V} {ρ : Operand → Value} {K : V → Prop} {t : TypeId} {a : Operand} {f : Nat} (h : valK P (.field t a f) e H K)
    (hρ : ∀ x, Rel (env w O H loc) (ρ x) (e x)) : ∃ z v, (Instr.field t (ρ a) f).run P w = .ok z w ∧ Rel (env w O H loc) z v ∧ K v := by
  have hx := hρ a
  simp only [valK] at h
  split at h
  · rename_i off ag n hf
    obtain ⟨fs, fd, hu, hfd, rfl, ht, hn⟩ := fldv_run hf
    split at h
    · rename_i cs ea
      obtain ⟨hl, hK⟩ := h
      rw [ea] at hx
      obtain ⟨arr, ex, hr⟩ := Rel.agg_iff.1 hx
      rw [ex]
      obtain ⟨y, h1, h2⟩ := part_sound (E := env w O H loc) ht hr hl hn w
      exact ⟨y, _, by simp [Instr.field, Sem.run_bind, run_underlying hu, hfd, asAgg, h1], h2, hK⟩
    · exact h.elim
  · exact h.elim
theorem index_sound {e : Operand → V} {ρ : Operand → Value} {K : V → Prop} {t : TypeId} {a b : Operand} (h : valK P (.index t a b) e H K)
    (hρ : ∀ x, Rel (env w O H loc) (ρ x) (e x)) : ∃ z v, (Instr.index t (ρ a) (ρ b)).run P w = .ok z w ∧ Rel (env w O H loc) z v ∧ K v := by
  have hx := hρ a
  have hy := hρ b
  simp only [valK] at h
  split at h
  · rename_i n ag sz ht
    obtain ⟨el, hu, he⟩ := arv_run ht
    obtain ⟨t1, t2⟩ := tyv_run he w
    split at h
    · rename_i cs k j ea eb
      obtain ⟨hj, hz, hl, hK⟩ := h
      rw [ea] at hx; rw [eb] at hy
      obtain ⟨arr, ex, hr⟩ := Rel.agg_iff.1 hx
      rw [ex, Rel.sc_iff.1 hy]
      have hb : j.toNat * sz + sz ≤ cs.length := by
        rw [← hl]
        have : (j.toNat + 1) * sz ≤ n * sz := Nat.mul_le_mul_right _ (by omega)
        rw [Nat.add_mul] at this; omega
      obtain ⟨y, h1, h2⟩ := part_sound (E := env w O H loc) he hr hb hz w
      exact ⟨y, _, by simp [Instr.index, asIntOf, Sem.run_bind, run_underlying hu, hj, t2, h1], h2, hK⟩
    · exact h.elim
  · split at h
    · rename_i hu
      split at h
      · rename_i s k j ea eb
        obtain ⟨hb, hj, hK⟩ := h
        rw [ea] at hx; rw [eb] at hy
        rw [Rel.sc_iff.1 hx, Rel.sc_iff.1 hy]
        refine ⟨_, _, ?_, .sc _, hK⟩
        simp [Instr.index, asIntOf, Sem.run_bind, run_underlying hu, hj, hb]
      · exact h.elim
    · exact h.elim
theorem beq_bytes (a b : ByteArray) : (a == b) = decide (a = b) := by
  obtain ⟨a⟩ := a
  obtain ⟨b⟩ := b
  have h : ((ByteArray.mk a == ByteArray.mk b) : Bool) = (a == b) := rfl
  rw [h]
  by_cases e : a = b
  · subst e; simp
  · have h1 : (a == b) = false := by simp [e]
    rw [h1]; simp [e]
theorem bin_sound {K : V → Prop} {op : BinOp} {t : TypeId} {x y : V} {xv yv : Value} {a b : Operand} (h : binK P op t x y K) (hx : Rel (env w O H loc) xv x) (hy : Rel (env w O H loc) yv y) :
    ∃ z v, (do eqGuard op t a b xv yv; binOp op t xv yv : Sem Value).run P w = .ok z w ∧ Rel (env w O H loc) z v ∧ K v := by
  have guard : (∀ p, xv ≠ .agg p) → (xv ≠ .nilIface) → (eqGuard op t a b xv yv).run P w = .ok () w := by
    intro h1 h2
    cases op <;> simp only [eqGuard] <;> first | rfl | (cases xv <;> cases yv <;> simp_all)
  unfold binK at h
  split at h
  · rename_i k a' k' b'
    rw [Rel.sc_iff.1 hx, Rel.sc_iff.1 hy] at guard ⊢
    obtain ⟨z, v, h1, h2, h3⟩ := int_sound (P := P) h (E := env w O H loc) (t := t) (w := w)
    refine ⟨z, v, ?_, h2, h3⟩
    rw [Sem.run_bind, guard (by simp) (by simp)]
    exact h1
  · rename_i a' b'
    rw [Rel.sc_iff.1 hx, Rel.sc_iff.1 hy] at guard ⊢
    split at h
    · refine ⟨_, _, ?_, .sc _, h.2⟩
      rw [Sem.run_bind, guard (by simp) (by simp)]
      exact run_eql_bool w t a' b' h.1
    · refine ⟨_, _, ?_, .sc _, h.2⟩
      rw [Sem.run_bind, guard (by simp) (by simp)]
      exact run_neq_bool w t a' b' h.1
    · exact h.elim
  · rename_i a' b'
    rw [Rel.sc_iff.1 hx, Rel.sc_iff.1 hy] at guard ⊢
    have hq : (a'.toList == b'.toList) = decide (a' = b') := by
      rw [← beq_toListBytes]
      exact beq_bytes a' b'
    cases op <;> simp only [strK] at h <;> first
      | exact h.elim
      | (refine ⟨_, _, ?_, .sc _, h⟩
         rw [Sem.run_bind, guard (by simp) (by simp)]
         simp [binOp, Op.stringOp, hq])
      | (refine ⟨_, _, ?_, .sc _, h.2⟩
         rw [Sem.run_bind, guard (by simp) (by simp)]
         have h1 := h.1
         have h2 : ¬ ((a'.size + b'.size : Nat) : Int) > IntKind.i64.max := by
           rw [show IntKind.i64.max = 9223372036854775807 from by decide]; omega
         simp only [Result.andThen_ok, binOp, Op.stringOp]
         rw [if_neg h2]; rfl)
  · rename_i cs ds
    obtain ⟨arr, ex, hr⟩ := Rel.agg_iff.1 hx
    obtain ⟨brr, ey, hs⟩ := Rel.agg_iff.1 hy
    rw [ex, ey]
    split at h
    · obtain ⟨⟨zs, ⟨h1, h2⟩, hz, h3⟩, h4⟩ := h
      refine ⟨_, _, ?_, .sc _, h4⟩
      rw [Sem.run_bind, run_eqGuard_agg w _ t a b arr brr h2]
      simp only [Result.andThen_ok]
      rw [run_eql_struct, h1 cs ds arr brr _ w hz h3 hr hs]
      simp
    · obtain ⟨⟨zs, ⟨h1, h2⟩, hz, h3⟩, h4⟩ := h
      refine ⟨_, _, ?_, .sc _, h4⟩
      rw [Sem.run_bind, run_eqGuard_agg w _ t a b arr brr h2]
      simp only [Result.andThen_ok]
      rw [run_neq_struct, h1 cs ds arr brr _ w hz h3 hr hs]
      simp
    · exact h.elim
  · exact h.elim
theorem mpv_run {t : TypeId} {kd : TypeDesc} {te : TypeId} (h : mpv P t = some (kd, te)) : ∃ k, P.underlying t = some (.map k te) ∧ P.underlying k = some kd ∧ ((∃ q, kd = .int q) ∨ kd = .string) := by
  unfold mpv at h
  split at h
  · rename_i k e hu
    split at h
    · rename_i q hk
      simp only [Option.some.injEq, Prod.mk.injEq] at h
      obtain ⟨rfl, rfl⟩ := h
      exact ⟨k, hu, hk, .inl ⟨q, rfl⟩⟩
    · rename_i hk
      simp only [Option.some.injEq, Prod.mk.injEq] at h
      obtain ⟨rfl, rfl⟩ := h
      exact ⟨k, hu, hk, .inr rfl⟩
    · cases h
  · cases h
theorem run_checkKey {k : TypeId} {kd : TypeDesc} (hk : P.underlying k = some kd) (hp : (∃ q, kd = .int q) ∨ kd = .string) (b : Bool) (n : Nat) (v : Value) : (Instr.checkKey b (n + 1) k v).run P w = .ok () w := by
  unfold Instr.checkKey
  rw [Sem.run_bind, run_underlying hk w]
  rcases hp with ⟨q, rfl⟩ | rfl <;> rfl
theorem findNow_eq {kd : TypeDesc} {k : Value} : ∀ (es : List MapEntry) (ks : List Value) (i : Nat) (r : Option Nat), es.map (·.key) = ks → mfind kd k ks i = some r →
    Instr.findNow kd k es i = some (r.map fun j => (j, (es.getD (j - i) default).val)) ∧ (∀ j, r = some j → i ≤ j ∧ j < i + es.length)
  | [], ks, i, r, he, h => by
    subst he
    simp only [List.map_nil, mfind, Option.some.injEq] at h
    subst h
    exact ⟨rfl, by simp⟩
  | e :: es, ks, i, r, he, h => by
    subst he
    simp only [List.map_cons, mfind] at h
    simp only [Instr.findNow]
    split at h
    · rename_i hs
      cases h
      rw [hs]
      exact ⟨by simp, by rintro j hj; cases hj; simp⟩
    · rename_i hs
      rw [hs]
      obtain ⟨h1, h2⟩ := findNow_eq es _ (i + 1) r rfl h
      refine ⟨?_, fun j hj => ?_⟩
      · simp only [h1]
        cases r with
        | none => rfl
        | some j =>
          have := h2 j rfl
          simp only [Option.map_some]
          rw [show j - i = (j - (i + 1)) + 1 by omega, List.getD_cons_succ]
      · have := h2 j hj
        simp only [List.length_cons]; omega
    · cases h
theorem keys_eq {arr : Array MapEntry} {ks : List Value} (hl : arr.size = ks.length) (hk : ∀ i, i < ks.length → (arr.getD i default).key = ks.getD i undef) : arr.toList.map (·.key) = ks := by
  apply List.ext_getElem
  · simpa using hl
  · intro i h1 h2
    have := hk i h2
    have h3 : i < arr.size := by omega
    simpa [Array.getD_eq_getD_getElem?, List.getD_eq_getElem?_getD, h3, h2] using this
theorem run_findKey {k : TypeId} {kd : TypeDesc} (hk : P.underlying k = some kd) {arr : Array MapEntry} {ks : List Value} (hl : arr.size = ks.length) (hks : ∀ i, i < ks.length → (arr.getD i default).key = ks.getD i undef) {key : Value} {r : Option Nat}
    (h : mfind kd key ks 0 = some r) : (Instr.findKey k key arr.toList).run P w = .ok (r.map fun j => (j, (arr.getD j default).val)) w ∧ ∀ j, r = some j → j < ks.length := by
  obtain ⟨h1, h2⟩ := findNow_eq arr.toList ks 0 r (keys_eq hl hks) h
  refine ⟨?_, fun j hj => by have := h2 j hj; simp at this; omega⟩
  unfold Instr.findKey
  rw [Sem.run_bind, run_underlying hk w]
  simp only [Result.andThen_ok, h1]
  congr 2
  cases r <;> simp [Array.getD_eq_getD_getElem?, List.getD_eq_getElem?_getD]
theorem run_zeroValue {te : TypeId} {z : V} (hz : zv P te = some z) (E : Env) : ∃ x, (zeroValue te).run P w = .ok x w ∧ Rel E x z := by
  unfold zv at hz
  split at hz
  · rename_i i hi
    cases hzz : i.zero with
    | none => simp [hzz] at hz
    | some x =>
      simp only [hzz, Option.map_some, Option.some.injEq] at hz
      subst hz
      refine ⟨x, by simp [zeroValue, typeInfo, hi, hzz], ?_⟩
      cases x with
      | agg arr =>
        refine Rel.agg_iff.2 ⟨arr, rfl, by simp, fun i hi => ?_⟩
        have hi' : i < arr.toList.length := by simpa using hi
        have e : (arr.toList.map V.sc).getD i .any = .sc (arr.toList.getD i undef) := by
          rw [List.getD_eq_getElem?_getD, List.getD_eq_getElem?_getD, List.getElem?_map, List.getElem?_eq_getElem hi']; rfl
        rw [e]; exact .sc _
      | _ => exact .sc _
  · cases hz
theorem lookup_sound {e : Operand → V} {ρ : Operand → Value} {K : V → Prop} {t : TypeId} {a b : Operand} {ok : Bool} (h : valK P (.lookup t a b ok) e H K)
    (hρ : ∀ x, Rel (env w O H loc) (ρ x) (e x)) (hobj : ∀ id o, look H id = some o → ObjOK (env w O H loc) id o) :
    ∃ z v, (Instr.lookup t (ρ a) (ρ b) ok).run P w = .ok z w ∧ Rel (env w O H loc) z v ∧ K v := by
  have hx := hρ a
  have hy := hρ b
  simp only [valK] at h
  split at h
  · rename_i kd te ht
    obtain ⟨k, hu, hk, hp⟩ := mpv_run ht
    split at h
    · rename_i z ks vs key hz hv hb
      rw [hb] at hy
      rw [Rel.sc_iff.1 hy]
      split at h
      · rename_i r hr
        obtain ⟨zx, hz1, hz2⟩ := run_zeroValue (w := w) hz (env w O H loc)
        have fin : ∀ (arr : Array MapEntry), arr.size = ks.length → (∀ i, i < ks.length → (arr.getD i default).key = ks.getD i undef) → (∀ i, i < ks.length → Rel (env w O H loc) (arr.getD i default).val (vs.getD i .any)) →
            ∃ z v, (do
              Instr.checkKey arr.isEmpty 10000 k key
              let (v, ok') ← match ← Instr.findKey k key arr.toList with
                | some (_, v) => pure (v, true)
                | none => pure (← zeroValue te, false)
              pure (if ok then .tuple #[v, .bool ok'] else v) : Sem Value).run P w = .ok z w ∧ Rel (env w O H loc) z v ∧ K v := by
          intro arr q1 q2 q3
          obtain ⟨f1, f2⟩ := run_findKey (w := w) hk q1 q2 hr
          rw [Sem.run_bind, run_checkKey hk hp]
          simp only [Result.andThen_ok]
          rw [Sem.run_bind, f1]
          simp only [Result.andThen_ok]
          cases r with
          | none =>
            refine ⟨_, _, by simp [Sem.run_bind, hz1]; rfl, ?_, h⟩
            unfold mgot
            cases ok
            · simpa using hz2
            · exact Rel.tup_iff.2 ⟨_, rfl, RelL.cons hz2 (RelL.cons (.sc _) (.nil _))⟩
          | some j =>
            refine ⟨_, _, rfl, ?_, h⟩
            have := q3 j (f2 j rfl)
            unfold mgot
            cases ok
            · simpa using this
            · exact Rel.tup_iff.2 ⟨_, rfl, RelL.cons this (RelL.cons (.sc _) (.nil _))⟩
        have hlk : ∀ (g : Nat) (arr : Array MapEntry) (clk : Nat), w.heap[g]? = some (.map arr clk) → ρ a = .map (some g) → (Instr.lookup t (ρ a) key ok).run P w = (do
              Instr.checkKey arr.isEmpty 10000 k key
              let (v, ok') ← match ← Instr.findKey k key arr.toList with
                | some (_, v) => pure (v, true)
                | none => pure (← zeroValue te, false)
              pure (if ok then .tuple #[v, .bool ok'] else v) : Sem Value).run P w := by
          intro g arr clk hg e
          rw [e]
          unfold Instr.lookup
          rw [Sem.run_bind, run_underlying hu w]
          simp only [Result.andThen_ok]
          rw [Sem.run_bind, run_getObj_map w g arr clk hg]
          simp only [Result.andThen_ok]
          rw [Sem.run_bind]
          simp only [Sem.run_pure, Result.andThen_ok]
          rfl
        generalize hva : e a = va at hv hx
        cases va <;> simp only [mview] at hv
        case dmp ks' vs' =>
          cases hv
          generalize hd : V.dmp ks vs = dv at hx
          generalize hxa : ρ a = xa at hx hlk ⊢
          cases hx with
          | dnil =>
            cases hd
            have := fin #[] rfl (by simp) (by simp)
            unfold Instr.lookup
            rw [Sem.run_bind, run_underlying hu w]
            simp only [Result.andThen_ok]
            rw [Sem.run_bind]
            simp only [Sem.run_pure, Result.andThen_ok]
            exact this
          | dmp ks'' vs'' g arr clk a1 a2 a3 a4 a5 a6 a7 =>
            cases hd
            rw [hlk g arr clk a3 rfl]
            exact fin arr a4 a6 a7
          | _ => cases hd
        case mp id =>
          split at hv
          · rename_i ks' vs' hl
            cases hv
            obtain ⟨g, arr, clk, e1, hg, ⟨h1, h2⟩, h3, h4, h5⟩ := hobj id _ hl
            have e2 : ρ a = loc id := by
              generalize hxa : ρ a = xa at hx
              cases hx; rfl
            rw [hlk g arr clk hg (e2.trans e1)]
            exact fin arr h1 h3 h5
          · cases hv
        case sc y =>
          have hy : y = .map none ∧ ks = [] ∧ vs = [] := by
            cases y <;> (try cases hv)
            rename_i o
            cases o <;> cases hv
            exact ⟨rfl, rfl, rfl⟩
          obtain ⟨rfl, rfl, rfl⟩ := hy
          rw [Rel.sc_iff.1 hx]
          have := fin #[] rfl (by simp) (by simp)
          unfold Instr.lookup
          rw [Sem.run_bind, run_underlying hu w]
          simp only [Result.andThen_ok]
          rw [Sem.run_bind]
          simp only [Sem.run_pure, Result.andThen_ok]
          exact this
        all_goals cases hv
      · exact h.elim
    · exact h.elim
  · exact h.elim
end
end Go.AM
