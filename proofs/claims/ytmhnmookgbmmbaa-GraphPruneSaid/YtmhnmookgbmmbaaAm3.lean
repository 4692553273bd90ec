/- The abstract machine, part 3: operations that give a value ('valK') and what they do in the machine. -/
import Derived.Test.YtmhnmookgbmmbaaAm2
set_option linter.unusedVariables false
set_option linter.unusedSimpArgs false
namespace Go.AM

/-! ### What is asked of types -/
def aggD : TypeDesc → Bool | .struct _ | .array _ _ => true | _ => false
/-- Is it a struct or an array; how many cells. -/
def tyv (P : Program) (t : TypeId) : Option (Bool × Nat) := match P.underlying t, P.info? t with
  | some d, some i => some (aggD d, i.size)
  | _, _ => none
/-- A field: its offset; is it a struct or an array; how many cells (more than none). -/
def fldv (P : Program) (t : TypeId) (f : Nat) : Option (Nat × Bool × Nat) := match P.underlying t with
  | some (.struct fs) => match fs[f]? with
    | some x => match tyv P x.type with
      | some (ag, n) => if n = 0 then none else some (x.offset, ag, n)
      | none => none
    | none => none
  | _ => none
/-- A slice type's element: type, cells, bytes. -/
def slv (P : Program) (t : TypeId) : Option (TypeId × Nat × Nat) := match P.underlying t with
  | some (.slice e) => match P.info? e with
    | some i => some (e, i.size, i.bytes)
    | none => none
  | _ => none
/-- An array type: length, element's kind and cells. -/
def arv (P : Program) (t : TypeId) : Option (Nat × Bool × Nat) := match P.underlying t with
  | some (.array n e) => match tyv P e with
    | some (ag, k) => some (n, ag, k)
    | none => none
  | _ => none

theorem tyv_run {P : Program} {t : TypeId} {ag : Bool} {n : Nat} (h : tyv P t = some (ag, n)) (w : World) :
    (isAgg t).run P w = .ok ag w ∧ (sizeOf t).run P w = .ok n w := by
  unfold tyv at h
  cases hu : P.underlying t with
  | none => simp [hu] at h
  | some d =>
    cases hi : P.info? t with
    | none => simp [hu, hi] at h
    | some i =>
      simp only [hu, hi, Option.some.injEq, Prod.mk.injEq] at h
      obtain ⟨rfl, rfl⟩ := h
      constructor
      · unfold isAgg; rw [Sem.run_bind, run_underlying hu w]; cases d <;> simp [aggD]
      · simp [sizeOf, typeInfo, hi]
theorem fldv_run {P : Program} {t : TypeId} {f off n : Nat} {ag : Bool} (h : fldv P t f = some (off, ag, n)) :
    ∃ fs x, P.underlying t = some (.struct fs) ∧ fs[f]? = some x ∧ x.offset = off ∧ tyv P x.type = some (ag, n) ∧ 0 < n := by
  unfold fldv at h
  split at h
  · rename_i fs hu
    split at h
    · rename_i x hx
      split at h
      · rename_i ag' n' ht
        split at h
        · cases h
        · simp only [Option.some.injEq, Prod.mk.injEq] at h
          obtain ⟨rfl, rfl, rfl⟩ := h
          exact ⟨fs, x, hu, hx, rfl, ht, by omega⟩
      · cases h
    · cases h
  · cases h
theorem slv_run {P : Program} {t e : TypeId} {n by_ : Nat} (h : slv P t = some (e, n, by_)) : P.underlying t = some (.slice e) ∧ ∃ i, P.info? e = some i ∧ i.size = n ∧ i.bytes = by_ := by
  unfold slv at h
  split at h
  · rename_i e' hu
    split at h
    · rename_i i hi
      simp only [Option.some.injEq, Prod.mk.injEq] at h
      obtain ⟨rfl, rfl, rfl⟩ := h
      exact ⟨hu, i, hi, rfl, rfl⟩
    · cases h
  · cases h
theorem arv_run {P : Program} {t : TypeId} {n k : Nat} {ag : Bool} (h : arv P t = some (n, ag, k)) : ∃ e, P.underlying t = some (.array n e) ∧ tyv P e = some (ag, k) := by
  unfold arv at h
  split at h
  · rename_i n' e hu
    split at h
    · rename_i ag' k' ht
      simp only [Option.some.injEq, Prod.mk.injEq] at h
      obtain ⟨rfl, rfl, rfl⟩ := h
      exact ⟨e, hu, ht⟩
    · cases h
  · cases h

/-! ### Abstract states -/
structure St where
  slots : List V
  heap : Heap
/-- A constant. -/
@[reducible] def V.nilS : V := .sc (.slice none 0 0)
def ev (s : List V) : Operand → V
  | .tmp t => s.getD t .any
  | .const v => .sc v
  | .global _ => .any
  | .func f => .fn f []
/-- A value that stands in a type's table: its zero. -/
def ofZero : Value → V
  | .agg arr => .agg (arr.toList.map .sc)
  | v => .sc v
def zv (P : Program) (t : TypeId) : Option V := match P.info? t with
  | some i => i.zero.map ofZero
  | none => none

/-- The element of an object. -/
def Obj.elem : Obj → Nat → V
  | .var _ v, _ => v
  | .lst _ _ es, i => es.getD i .any
  | .row _ _ es, i => es.getD i .any
  | .map .., _ => .any
def Obj.len : Obj → Nat
  | .var .. => 1
  | .lst _ _ es => es.length
  | .row _ _ es => es.length
  | .map .. => 0

/-! ### Operators -/
def cmpK (op : BinOp) (a b : Int) (K : V → Prop) : Prop := match op with
  | .eql => K (.sc (.bool (decide (a = b))))
  | .neq => K (.sc (.bool (!decide (a = b))))
  | .lss => K (.sc (.bool (decide (a < b))))
  | .leq => K (.sc (.bool (decide (a ≤ b))))
  | .gtr => K (.sc (.bool (decide (b < a))))
  | .geq => K (.sc (.bool (decide (b ≤ a))))
  | _ => False
def intK (op : BinOp) (k k' : IntKind) (a b : Int) (K : V → Prop) : Prop := match op with
  | .add => k = k' ∧ K (.sc (.int k (k.wrap (a + b))))
  | .sub => k = k' ∧ K (.sc (.int k (k.wrap (a - b))))
  | .mul => k = k' ∧ K (.sc (.int k (k.wrap (a * b))))
  | .quo => k = k' ∧ b ≠ 0 ∧ K (.sc (.int k (k.wrap (a.tdiv b))))
  | .rem => k = k' ∧ b ≠ 0 ∧ K (.sc (.int k (a.tmod b)))
  | .and => k = k' ∧ K (.sc (.int k (k.wrap (BitVec.ofInt k.bits a &&& BitVec.ofInt k.bits b).toNat)))
  | .or => k = k' ∧ K (.sc (.int k (k.wrap (BitVec.ofInt k.bits a ||| BitVec.ofInt k.bits b).toNat)))
  | .xor => k = k' ∧ K (.sc (.int k (k.wrap (BitVec.ofInt k.bits a ^^^ BitVec.ofInt k.bits b).toNat)))
  | .andNot => k = k' ∧ K (.sc (.int k (k.wrap (BitVec.ofInt k.bits a &&& ~~~ BitVec.ofInt k.bits b).toNat)))
  | .shl => 0 ≤ b ∧ K (.sc (.int k (k.wrap (a * 2 ^ (min b.toNat k.bits)))))
  | .shr => 0 ≤ b ∧ K (.sc (.int k (a.fdiv (2 ^ (min b.toNat k.bits)))))
  | op => k = k' ∧ cmpK op a b K
def strK (op : BinOp) (a b : ByteArray) (K : V → Prop) : Prop := match op with
  | .eql => K (.sc (.bool (decide (a = b))))
  | .neq => K (.sc (.bool (!decide (a = b))))
  | .lss => K (.sc (.bool (Op.bytesLess a.toList b.toList)))
  | .add => a.size + b.size ≤ 140737488355328 ∧ K (.sc (.string (a ++ b)))
  | _ => False
/-- Structs of plain cells. -/
def eqCells : List V → List V → Bool
  | [], [] => true
  | .sc (.int _ a) :: xs, .sc (.int _ b) :: ys => decide (a = b) && eqCells xs ys
  | .sc (.bool a) :: xs, .sc (.bool b) :: ys => (a == b) && eqCells xs ys
  | .sc (.string a) :: xs, .sc (.string b) :: ys => decide (a = b) && eqCells xs ys
  | _, _ => false
def plainCells : List V → List V → Bool
  | [], [] => true
  | .sc (.int k _) :: xs, .sc (.int k' _) :: ys => k == k' && plainCells xs ys
  | .sc (.bool _) :: xs, .sc (.bool _) :: ys => plainCells xs ys
  | .sc (.string _) :: xs, .sc (.string _) :: ys => plainCells xs ys
  | _, _ => false
/-- The comparison of two values of a struct type goes cell by cell. -/
def CellEq (P : Program) (t : TypeId) (zs : List V) : Prop := ∀ (cs ds : List V) (xs ys : Array Value) (E : Env) (w : World), plainCells zs cs = true → plainCells cs ds = true → RelL E xs.toList cs → RelL E ys.toList ds →
  (Op.equalIn 10000 t (.agg xs) (.agg ys)).run P w = .ok (eqCells cs ds) w
def eqlT (P : Program) (t : TypeId) (zs : List V) : Prop := CellEq P t zs ∧ P.eqGuardType P.depth t = false
def eqlC (P : Program) (t : TypeId) (cs ds : List V) : Prop := ∃ zs, eqlT P t zs ∧ plainCells zs cs = true ∧ plainCells cs ds = true
def binK (P : Program) (op : BinOp) (t : TypeId) (x y : V) (K : V → Prop) : Prop := match x, y with
  | .sc (.int k a), .sc (.int k' b) => intK op k k' a b K
  | .sc (.bool a), .sc (.bool b) => match op with
    | .eql => P.underlying t = some .bool ∧ K (.sc (.bool (a == b)))
    | .neq => P.underlying t = some .bool ∧ K (.sc (.bool (!(a == b))))
    | _ => False
  | .sc (.string a), .sc (.string b) => strK op a b K
  | .agg cs, .agg ds => match op with
    | .eql => eqlC P t cs ds ∧ K (.sc (.bool (eqCells cs ds)))
    | .neq => eqlC P t cs ds ∧ K (.sc (.bool (!eqCells cs ds)))
    | _ => False
  | _, _ => False
def unK (op : UnOp) (x : V) (K : V → Prop) : Prop := match op, x with
  | .not, .sc (.bool b) => K (.sc (.bool (!b)))
  | .neg, .sc (.int k n) => K (.sc (.int k (k.wrap (0 - n))))
  | _, _ => False
def convK (P : Program) (src dst : TypeId) (x : V) (K : V → Prop) : Prop := match x with
  | .sc (.int _ n) => match P.underlying src, P.underlying dst with
    | some (.int _), some (.int k) => K (.sc (.int k (k.wrap n)))
    | _, _ => False
  | .sc (.string s) => match P.underlying src, P.underlying dst with
    | some .string, some .string => K (.sc (.string s))
    | _, _ => False
  | _ => False
/-- Put parts into cells. -/
def fillV (place : Nat → Option (Nat × Nat)) : List V → List (Nat × V) → Option (List V)
  | cs, [] => some cs
  | cs, (i, v) :: rest => match place i with
    | none => none
    | some (off, size) => if v.cells.length ≠ size || off + size > cs.length then none else fillV place (cs.take off ++ v.cells ++ cs.drop (off + size)) rest
def places (P : Program) (t : TypeId) : Option (List (Nat × Nat)) := match P.underlying t with
  | some (.struct fs) => fs.toList.mapM fun f => (P.info? f.type).map fun i => (f.offset, i.size)
  | _ => none

def placeF (P : Program) (t : TypeId) : Option (Nat → Option (Nat × Nat)) := match P.underlying t with
  | some (.struct _) => (places P t).map fun ps i => ps[i]?
  | some (.array _ e) => (P.info? e).map fun f i => some (i * f.size, f.size)
  | _ => none

/-- A map type whose keys are integers or strings: the keys' kind, the elements' type. -/
def mpv (P : Program) (t : TypeId) : Option (TypeDesc × TypeId) := match P.underlying t with
  | some (.map k e) => match P.underlying k with
    | some (.int q) => some (.int q, e)
    | some .string => some (.string, e)
    | _ => none
  | _ => none
/-- Where a key stands. -/
def mfind (kd : TypeDesc) (k : Value) : List Value → Nat → Option (Option Nat)
  | [], _ => some none
  | x :: xs, i => match Instr.sameNow kd k x with
    | some true => some (some i)
    | some false => mfind kd k xs (i + 1)
    | none => none
/-- What a map holds. -/
def mview (H : Heap) : V → Option (List Value × List V)
  | .dmp ks vs => some (ks, vs)
  | .mp id => match look H id with
    | some (.map ks vs) => some (ks, vs)
    | _ => none
  | .sc (.map none) => some ([], [])
  | _ => none
/-- The value at a key. -/
def mgot (z : V) (vs : List V) (r : Option Nat) (ok : Bool) : V :=
  let v := match r with | some i => vs.getD i .any | none => z
  if ok then .tup [v, .b r.isSome] else v

/-- All elements have this many cells. -/
def Stride (sz : Nat) (es : List V) : Prop := ∀ v ∈ es, v.cells.length = sz

/-- OPERATIONS THAT GIVE A VALUE AND LEAVE THE OBJECTS AS THEY ARE. -/
def valK (P : Program) (op : Op) (e : Operand → V) (H : Heap) (K : V → Prop) : Prop := match op with
  | .move x => K (e x)
  | .assign x => K (e x)
  | .pick c a b => match e c with
    | .sc (.bool t) => K (if t then e a else e b)
    | _ => False
  | .load t x => match tyv P t with
    | some (ag, n) => match e x with
      | .pt v => n ≤ v.cells.length ∧ (0 < n ∨ ag = true) ∧ K (v.sub ag 0 n)
      | .ptr id i fo => match look H id with
        | some o => i < o.len ∧ fo + n ≤ (o.elem i).cells.length ∧ (0 < n ∨ ag = true) ∧ K ((o.elem i).sub ag fo n)
        | none => False
      | _ => False
    | none => False
  | .nilCheck x => match e x with
    | .pt v => K (.pt v)
    | .ptr id i fo => K (.ptr id i fo)
    | _ => False
  | .binOp op t x y _ => binK P op t (e x) (e y) K
  | .unOp op _ x => unK op (e x) K
  | .convert src dst x => convK P src dst (e x) K
  | .fieldAddr t x f => match fldv P t f with
    | some (off, ag, n) => match e x with
      | .pt v => off + n ≤ v.cells.length ∧ V.fits ag n (v.sub ag off n) ∧ K (.pt (v.sub ag off n))
      | .ptr id i fo => K (.ptr id i (fo + off))
      | _ => False
    | none => False
  | .field t x f => match fldv P t f with
    | some (off, ag, n) => match e x with
      | .agg cs => off + n ≤ cs.length ∧ K ((V.agg cs).sub ag off n)
      | _ => False
    | none => False
  | .indexAddr t x i => match slv P t with
    | some (_, sz, _) => match e x, e i with
      | .sl _ es, .sc (.int _ j) => (0 ≤ j ∧ j < es.length) ∧ (es.getD j.toNat .any).cells.length = sz ∧ K (.pt (es.getD j.toNat .any))
      | .own id, .sc (.int _ j) => match look H id with
        | some (.lst _ sz' es) => sz' = sz ∧ (0 ≤ j ∧ j < es.length) ∧ K (.ptr id j.toNat 0)
        | _ => False
      | .vw id off len _, .sc (.int _ j) => match look H id with
        | some (.row _ sz' es) => sz' = sz ∧ (0 ≤ j ∧ j < len) ∧ K (.ptr id (off + j.toNat) 0)
        | _ => False
      | _, _ => False
    | none => match arv P t with
      | some (n, ag, sz) => match e x, e i with
        | .ptr id k fo, .sc (.int _ j) => 2 ≤ n ∧ (0 ≤ j ∧ j < n) ∧ K (.ptr id k (fo + j.toNat * sz))
        | .pt v, .sc (.int _ j) => 2 ≤ n ∧ 0 < sz ∧ n * sz = v.cells.length ∧ (0 ≤ j ∧ j < n) ∧ V.fits ag sz (v.sub ag (j.toNat * sz) sz) ∧ K (.pt (v.sub ag (j.toNat * sz) sz))
        | _, _ => False
      | none => False
  | .index t x i => match arv P t with
    | some (n, ag, sz) => match e x, e i with
      | .agg cs, .sc (.int _ j) => (0 ≤ j ∧ j < n) ∧ 0 < sz ∧ n * sz = cs.length ∧ K ((V.agg cs).sub ag (j.toNat * sz) sz)
      | _, _ => False
    | none => match P.underlying t with
      | some .string => match e x, e i with
        | .sc (.string s), .sc (.int _ j) => ∃ h : j.toNat < s.size, 0 ≤ j ∧ K (.sc (.int .u8 (s[j.toNat]'h).toNat))
        | _, _ => False
      | _ => False
  | .lookup t x ix ok => match mpv P t with
    | some (kd, te) => match zv P te, mview H (e x), e ix with
      | some z, some (ks, vs), .sc k => match mfind kd k ks 0 with
        | some r => K (mgot z vs r ok)
        | none => False
      | _, _, _ => False
    | none => False
  | .extract x n => match e x with
    | .tup vs => n < vs.length ∧ K (vs.getD n .any)
    | _ => False
  | .build t parts => match placeF P t, zv P t with
    | some pf, some (.agg z) => match fillV pf z (parts.toList.map fun p => (p.1, e p.2)) with
      | some cs => (parts.toList.all fun p => (e p.2).okCells) = true ∧ K (.agg cs)
      | none => False
    | _, _ => False
  | .call { callee := .builtin .len, args, argTypes } => match args.toList, argTypes.toList with
    | [x], [t] => match e x with
      | .sl _ es => (slv P t).isSome = true ∧ K (.sc (.int .i64 es.length))
      | .own id => match look H id with
        | some (.lst _ _ es) => (slv P t).isSome = true ∧ K (.sc (.int .i64 es.length))
        | _ => False
      | .vw _ _ len _ => (slv P t).isSome = true ∧ K (.sc (.int .i64 len))
      | .sc (.string s) => P.underlying t = some .string ∧ K (.sc (.int .i64 s.size))
      | .sc (.slice none 0 0) => (slv P t).isSome = true ∧ K (.sc (.int .i64 0))
      | _ => False
    | _, _ => False
  | .call { callee := .builtin .cap, args, argTypes } => match args.toList, argTypes.toList with
    | [x], [t] => match e x with
      | .vw _ _ _ cap => (slv P t).isSome = true ∧ K (.sc (.int .i64 cap))
      | _ => False
    | _, _ => False
  | .call { callee := .builtin .max, args, argTypes } => match args.toList with
    | [x, y] => match e x, e y with
      | .sc (.int k a), .sc (.int _ b) => K (.sc (.int k (if a < b then b else a)))
      | _, _ => False
    | _ => False
  | .call { callee := .builtin .min, args, argTypes } => match args.toList with
    | [x, y] => match e x, e y with
      | .sc (.int k a), .sc (.int _ b) => K (.sc (.int k (if b < a then b else a)))
      | _, _ => False
    | _ => False
  | .makeFunc (.func f) first caps => first = #[] ∧ K (.fn f (caps.toList.map e))
  | .slice t x lo hi mx => match slv P t with
    | some (_, sz, _) => match e x with
      | .sl full es => match (lo.map e), (hi.map e), (mx.map e) with
        | none, none, none => K (.sl full es)
        | some (.sc (.int _ l)), none, none => (0 ≤ l ∧ l ≤ es.length) ∧ Stride sz es ∧ K (.sl full (es.drop l.toNat))
        | none, some (.sc (.int _ h)), none => (0 ≤ h ∧ h ≤ es.length) ∧ K (.sl false (es.take h.toNat))
        | some (.sc (.int _ l)), some (.sc (.int _ h)), none => (0 ≤ l ∧ l ≤ h ∧ h ≤ es.length) ∧ Stride sz es ∧ K (.sl false ((es.take h.toNat).drop l.toNat))
        | none, some (.sc (.int _ h)), some (.sc (.int _ m)) => (0 ≤ h ∧ h = m ∧ h ≤ es.length) ∧ K (.sl true (es.take h.toNat))
        | _, _, _ => False
      | .own id => match look H id with
        | some (.lst _ _ es) => match (lo.map e), (hi.map e), (mx.map e) with
          | some (.sc (.int _ l)), none, none => (0 ≤ l ∧ l ≤ es.length) ∧ K .junk
          | _, _, _ => False
        | _ => False
      | .vw id off len cap => match look H id with
        | some (.row _ sz' es) => sz' = sz ∧ match (lo.map e), (hi.map e), (mx.map e) with
          | none, none, none => K (.vw id off len cap)
          | some (.sc (.int _ l)), none, none => (0 ≤ l ∧ l ≤ len) ∧ K (.vw id (if cap = l.toNat then off else off + l.toNat) (len - l.toNat) (cap - l.toNat))
          | none, some (.sc (.int _ h)), none => (0 ≤ h ∧ h ≤ cap) ∧ K (.vw id off h.toNat cap)
          | some (.sc (.int _ l)), some (.sc (.int _ h)), none => (0 ≤ l ∧ l ≤ h ∧ h ≤ cap) ∧ K (.vw id (if cap = l.toNat then off else off + l.toNat) (h.toNat - l.toNat) (cap - l.toNat))
          | _, _, _ => False
        | _ => False
      | _ => False
    | none => match P.underlying t with
      | some .string => match e x with
        | .sc (.string s) => match (lo.map e), (hi.map e), (mx.map e) with
          | some (.sc (.int _ l)), none, none => (0 ≤ l ∧ l ≤ s.size) ∧ K (.sc (.string (s.extract l.toNat s.size)))
          | none, some (.sc (.int _ h)), none => (0 ≤ h ∧ h ≤ s.size) ∧ K (.sc (.string (s.extract 0 h.toNat)))
          | some (.sc (.int _ l)), some (.sc (.int _ h)), none => (0 ≤ l ∧ l ≤ h ∧ h ≤ s.size) ∧ K (.sc (.string (s.extract l.toNat h.toNat)))
          | _, _, _ => False
        | _ => False
      | _ => False
  | _ => False
end Go.AM
