/- The abstract machine: Sx, Sy, Sz. Own work; imports the kit's laws only. -/
import Derived.Test.YtndpgjcmmjeoiaaGreatMc
import Derived.IntWalk
set_option linter.unusedVariables false
set_option linter.unusedSimpArgs false
namespace Go.AM
open V (Le LeL)
section
variable {P : Program} {ops rest : List Oper} {A : Array Oper} {s : St} {H : Heap} {slots : List V} {K : V → St → Prop} {K1 : St → Prop} {K0 : V → Prop} {KH : V → Heap → Prop} {d : Option Tmp} {t : TypeId} {pos : String} {af : Array Edge}
theorem evalR_cons {op : Op} : evalR P A (⟨d, op, t, pos, af, none⟩ :: rest) ⟨slots, H⟩ K1 = stepR P ⟨d, op, t, pos, af, none⟩ ⟨slots, H⟩ fun v s' => evalR P A rest (s'.put d v) K1 := rfl
theorem evalR_guard {op : Op} {j : Nat} {want : Bool} : evalR P A (⟨d, op, t, pos, af, some (j, want)⟩ :: rest) ⟨slots, H⟩ K1 = match (A[j]?).bind (·.dst) with
      | some d' => match slots.getD d' .any with
        | .sc (.bool b) => (b = want → stepR P ⟨d, op, t, pos, af, some (j, want)⟩ ⟨slots.set d' (.sc (.bool want)), H⟩ fun v s' => evalR P A rest (s'.put d v) K1) ∧
            (b = (!want) → evalR P A rest ((⟨slots.set d' (.sc (.bool (!want))), H⟩ : St).put d (.sc undef)) K1)
        | .sc (.tuple _) => evalR P A rest ((⟨slots, H⟩ : St).put d (.sc undef)) K1
        | _ => False
      | none => False := rfl
theorem evalD_cons {op : Op} : evalD P A (⟨d, op, t, pos, af, none⟩ :: rest) ⟨slots, H⟩ K1 = dK P ⟨d, op, t, pos, af, none⟩ (ev slots) H fun v H' => evalD P A rest ((⟨slots, H'⟩ : St).put d v) K1 := rfl
end
section
variable {P : Program} {f : FuncId} {k : List Item} {s : St}
theorem Runs.ret_fn {fn : Func} {r : V} (hf : P.funcs[f]? = some fn) (h : resK P s fn.results.toList fun vs => Le (pack vs) r ∧ r.data = true) : Runs P f (fun r' H' => r' = r ∧ H' = []) (.code .ret :: k) s := by
  refine Runs.ret_data hf ?_
  revert h
  have mono : ∀ (rs : List ResultVar) (K K' : List V → Prop), (∀ vs, K vs → K' vs) → resK P s rs K → resK P s rs K' := by
    intro rs
    induction rs with
    | nil => intro K K' h hk; exact h _ hk
    | cons r rs ih =>
      intro K K' h hk
      cases r with
      | tmp t => exact ih _ _ (fun vs => h _) hk
      | cell t ty =>
        simp only [resK, valK] at hk ⊢
        revert hk
        split
        · split
          · rintro ⟨h1, h2, h3⟩; exact ⟨h1, h2, ih _ _ (fun vs => h _) h3⟩
          · split
            · rintro ⟨h1, h2, h3, h4⟩; exact ⟨h1, h2, h3, ih _ _ (fun vs => h _) h4⟩
            · exact fun h => h
          · exact fun h => h
        · exact fun h => h
  refine mono _ _ _ ?_
  rintro vs ⟨h1, h2⟩
  exact ⟨r, h1, h2, rfl, rfl⟩
theorem Runs.loopI {f : FuncId} {post : V → Heap → Prop} {k : List Item} {s : St} {body : Code} {α : Type} (μ : α → Nat) (Inv : α → Prop) (I : α → St) (a0 : α) (h0 : Inv a0) (hle : s.Le (I a0))
    (hs : ∀ a, Inv a → (∀ b s', Inv b → μ b < μ a → s'.Le (I b) → Runs P f post (.inLoop body :: k) s') → Runs P f post (.code body :: .inLoop body :: k) (I a)) : Runs P f post (.code (.loop body) :: k) s := by
  have key : ∀ n a, μ a = n → Inv a → Runs P f post (.code body :: .inLoop body :: k) (I a) := by
    intro n
    induction n using Nat.strongRecOn with
    | _ n ih =>
      intro a hn ha
      refine hs a ha fun b s' hb hlt hle' => ?_
      exact Runs.inLoop (Runs.weaken hle' (ih (μ b) (hn ▸ hlt) b rfl hb))
  exact Runs.loop (Runs.weaken hle (key _ a0 rfl h0))
@[congr] theorem Runs_congr {f : FuncId} {post : V → Heap → Prop} {k : List Item} {s s' : St} (h : s = s') : Runs P f post k s = Runs P f post k s' := by subst h; rfl
end
namespace V
mutual
/-- The lengths of all slices within are possible. -/
def lens : V → Prop
  | .sl _ es => es.length ≤ 9223372036854775807 ∧ lensL es
  | .agg cs => lensL cs
  | .tup cs => lensL cs
  | .pt v => lens v
  | .fn _ _ => True
  | .dmp _ _ => True
  | .sc _ => True
  | .any => True
  | .junk => True
  | .own _ => True
  | .ptr .. => True
  | .vw .. => True
  | .mp _ => True
def lensL : List V → Prop
  | [] => True
  | v :: vs => lens v ∧ lensL vs
end
theorem lensL_iff {vs : List V} : lensL vs ↔ ∀ v ∈ vs, lens v := by
  induction vs with
  | nil => simp [lensL]
  | cons v vs ih => simp [lensL, ih]
theorem lensL_of_getD {vs : List V} (h : ∀ i, i < vs.length → lens (vs.getD i .any)) : lensL vs := by
  rw [lensL_iff]
  intro v hv
  obtain ⟨i, hi, rfl⟩ := List.mem_iff_getElem.1 hv
  simpa [List.getD_eq_getElem?_getD, hi] using h i hi
theorem lens_of_cells {v : V} (h : lensL v.cells) : lens v := by
  cases v <;> first | exact h.1 | exact h | trivial
theorem lensL_map {α : Type} {g : α → V} {xs : List α} : lensL (xs.map g) ↔ ∀ x ∈ xs, lens (g x) := by simp [lensL_iff]
end V
theorem Rel.lens {E : Env} {x : Value} {v : V} (h : Rel E x v) : v.lens := by
  induction h with
  | agg arr cs h1 _ ih => exact V.lensL_of_getD ih
  | tup arr cs h1 _ ih => exact V.lensL_of_getD ih
  | nil => exact ⟨by simp, trivial⟩
  | sl full es g off c sz f a1 a2 a3 a4 a5 a6 a7 a8 a9 ih =>
    refine ⟨Nat.le_trans a2 (Nat.le_trans a3 (by decide)), V.lensL_of_getD fun i hi => V.lens_of_cells (V.lensL_of_getD fun j hj => ih i j hi (by rw [← a7 i hi]; exact hj))⟩
  | pt v g off f a1 a2 a3 a4 ih => exact V.lens_of_cells (v := v) (V.lensL_of_getD ih)
  | _ => trivial
section
variable {P : Program} {f : FuncId} {post : V → Heap → Prop} {k : List Item} {s : St}
theorem Runs.fact {F : Prop} (hf : ∀ w0 O M loc xs w, SimAt w0 O M s.heap loc s.slots xs w → F) (h : F → Runs P f post k s) : Runs P f post k s :=
  fun w0 O M loc a w b cs hd S hb hk => h (hf w0 O M loc _ w S) w0 O M loc a w b cs hd S hb hk
theorem Runs.lens (i : Nat) (h : (s.slots.getD i .any).lens → Runs P f post k s) : Runs P f post k s :=
  Runs.fact (fun w0 O M loc xs w S => (S.vals.getD i).lens) h
end
namespace V
theorem cells_agg (cs : List V) : (V.agg cs).cells = cs := rfl
theorem cells_sc (x : Value) : (V.sc x).cells = [V.sc x] := rfl
theorem cells_any : V.any.cells = [V.any] := rfl
theorem cells_junk : V.junk.cells = [V.junk] := rfl
theorem cells_sl (f : Bool) (es : List V) : (V.sl f es).cells = [V.sl f es] := rfl
theorem cells_pt (v : V) : (V.pt v).cells = [V.pt v] := rfl
theorem cells_fn (f : FuncId) (cs : List V) : (V.fn f cs).cells = [V.fn f cs] := rfl
theorem cells_own (id : Nat) : (V.own id).cells = [V.own id] := rfl
theorem cells_ptr (id i fo : Nat) : (V.ptr id i fo).cells = [V.ptr id i fo] := rfl
theorem cells_vw (id o l c : Nat) : (V.vw id o l c).cells = [V.vw id o l c] := rfl
theorem cells_mp (id : Nat) : (V.mp id).cells = [V.mp id] := rfl
end V
theorem u64_i64 {n : Int} (h : 0 ≤ n ∧ n ≤ 18446744073709551615) : IntKind.u64.wrap (IntKind.i64.wrap n) = n := by
  rw [IntKind.wrap_i64]
  simp only [IntKind.wrap, IntKind.bits, IntKind.signed]
  simp
  omega
theorem shr1 (a : Int) : a.fdiv (2 ^ (min (Int.toNat 1) (IntKind.bits .u64))) = a / 2 := by
  rw [show min (Int.toNat 1) (IntKind.bits .u64) = 1 from rfl, Int.fdiv_eq_ediv_of_nonneg] <;> simp
theorem look_nil (id : Nat) : look [] id = none := rfl
theorem look_cons (k id : Nat) (o : Obj) (H : Heap) : look ((k, o) :: H) id = if k = id then some o else look H id := rfl
theorem upd_nil (id : Nat) (o : Obj) : upd [] id o = [] := rfl
theorem upd_cons (k id : Nat) (o p : Obj) (H : Heap) : upd ((k, p) :: H) id o = if k = id then (k, o) :: upd H id o else (k, p) :: upd H id o := rfl
theorem Storable_nil : Storable [] := by simp [Storable]
theorem Storable_cons (v : V) (vs : List V) : Storable (v :: vs) = (v.okCells = true ∧ Storable vs) := by simp [Storable]
theorem Storable_map {α : Type} (g : α → V) (xs : List α) (h : ∀ x, (g x).okCells = true) : Storable (xs.map g) := by
  intro v hv; obtain ⟨x, _, rfl⟩ := List.mem_map.1 hv; exact h x
theorem Stride_nil (n : Nat) : Stride n [] := by simp [Stride]
theorem Stride_cons (n : Nat) (v : V) (vs : List V) : Stride n (v :: vs) = (v.cells.length = n ∧ Stride n vs) := by simp [Stride]
theorem Stride_map {α : Type} {n : Nat} (g : α → V) (xs : List α) (h : ∀ x, (g x).cells.length = n) : Stride n (xs.map g) := by
  intro v hv; obtain ⟨x, _, rfl⟩ := List.mem_map.1 hv; exact h x
theorem dataL_map {α : Type} (g : α → V) (xs : List α) (h : ∀ x, (g x).data = true) : V.dataL (xs.map g) = true := by
  rw [V.dataL_iff]; intro v hv; obtain ⟨x, _, rfl⟩ := List.mem_map.1 hv; exact h x
theorem getD_map {α : Type} [Inhabited α] (g : α → V) (xs : List α) (i : Nat) (d : V) (h : i < xs.length) : (xs.map g).getD i d = g (xs.getD i default) := by
  simp [List.getD_eq_getElem?_getD, h]
end Go.AM
namespace Go.AM
open V (Le LeL)
def valB : Op → Bool
  | .move _ | .assign _ | .pick .. | .load .. | .nilCheck _ | .unOp .. | .convert .. | .fieldAddr .. | .field .. | .indexAddr .. | .index .. | .extract .. | .build .. | .makeFunc .. | .slice .. | .lookup .. => true
  | .binOp .eql .. => false
  | .binOp .. => true
  | .call { callee := .builtin .len, .. } | .call { callee := .builtin .cap, .. } | .call { callee := .builtin .max, .. } | .call { callee := .builtin .min, .. } => true
  | _ => false
structure Later (q : Prop) : Prop where
  h : q
section
variable {P : Program} {rest : List Oper} {A : Array Oper} {H : Heap} {slots : List V} {K1 : St → Prop} {d : Option Tmp} {D : Tmp} {t : TypeId} {pos : String} {af : Array Edge} {op : Op}
theorem r_val (hv : valB op = true) (h : valK P op (ev slots) H fun v => evalR P A rest ((⟨slots, H⟩ : St).put d v) K1) : evalR P A (⟨d, op, t, pos, af, none⟩ :: rest) ⟨slots, H⟩ K1 := by
  rw [evalR_cons]
  cases op with
  | binOp o a b c e => cases o <;> first | (simp [valB] at hv; done) | exact h
  | call c =>
    obtain ⟨callee, args, argTypes⟩ := c
    cases callee with
    | builtin b => cases b <;> first | (simp [valB] at hv; done) | exact h
    | value f => simp [valB] at hv
    | invoke r m => simp [valB] at hv
  | _ => first | (simp [valB] at hv; done) | exact h | exact .inl h
theorem d_val (hv : valB op = true) (h : valK P op (ev slots) H fun v => evalD P A rest ((⟨slots, H⟩ : St).put d v) K1) : evalD P A (⟨d, op, t, pos, af, none⟩ :: rest) ⟨slots, H⟩ K1 := by
  rw [evalD_cons]
  cases op with
  | binOp o a b c e => cases o <;> first | (simp [valB] at hv; done) | exact h
  | call c =>
    obtain ⟨callee, args, argTypes⟩ := c
    cases callee with
    | builtin b => cases b <;> first | (simp [valB] at hv; done) | exact h
    | value f => simp [valB] at hv
    | invoke r m => simp [valB] at hv
  | _ => first | (simp [valB] at hv; done) | exact h
theorem r_v (hv : valB op = true) (h : valK P op (ev slots) H fun v => evalR P A rest ⟨slots.set D v, H⟩ K1) : evalR P A (⟨some D, op, t, pos, af, none⟩ :: rest) ⟨slots, H⟩ K1 := r_val hv h
theorem d_v (hv : valB op = true) (h : valK P op (ev slots) H fun v => evalD P A rest ⟨slots.set D v, H⟩ K1) : evalD P A (⟨some D, op, t, pos, af, none⟩ :: rest) ⟨slots, H⟩ K1 := d_val hv h
theorem r_end (h : K1 ⟨slots, H⟩) : evalR P A [] ⟨slots, H⟩ K1 := h
theorem d_end (h : K1 ⟨slots, H⟩) : evalD P A [] ⟨slots, H⟩ K1 := h
theorem r_n {l : List Oper} {s' : List V} (h : slots = s') (k : evalR P A l ⟨s', H⟩ K1) : evalR P A l ⟨slots, H⟩ K1 := by rw [h]; exact k
theorem d_n {l : List Oper} {s' : List V} (h : slots = s') (k : evalD P A l ⟨s', H⟩ K1) : evalD P A l ⟨slots, H⟩ K1 := by rw [h]; exact k
theorem r_nn {l : List Oper} {s' : List V} {H' : Heap} (h : slots = s') (h2 : H = H') (k : evalR P A l ⟨s', H'⟩ K1) : evalR P A l ⟨slots, H⟩ K1 := by rw [h, h2]; exact k
theorem d_nn {l : List Oper} {s' : List V} {H' : Heap} (h : slots = s') (h2 : H = H') (k : evalD P A l ⟨s', H'⟩ K1) : evalD P A l ⟨slots, H⟩ K1 := by rw [h, h2]; exact k
variable {j : Nat} {want b : Bool} {d' : Tmp}
theorem r_guard (hj : (A[j]?).bind (·.dst) = some d') (hb : slots.getD d' .any = .sc (.bool b))
    (h1 : b = want → evalR P A (⟨d, op, t, pos, af, none⟩ :: rest) ⟨slots.set d' (.sc (.bool want)), H⟩ K1) (h2 : b = (!want) → evalR P A rest ((⟨slots.set d' (.sc (.bool (!want))), H⟩ : St).put d (.sc undef)) K1) :
    evalR P A (⟨d, op, t, pos, af, some (j, want)⟩ :: rest) ⟨slots, H⟩ K1 := by
  show match (A[j]?).bind (·.dst) with | some d' => _ | none => False
  rw [hj]
  show match slots.getD d' .any with | .sc (.bool b) => _ | .sc (.tuple _) => _ | _ => False
  rw [hb]
  exact ⟨fun e => h1 e, h2⟩
theorem d_guard (hj : (A[j]?).bind (·.dst) = some d') (hb : slots.getD d' .any = .sc (.bool b))
    (h1 : b = want → evalD P A (⟨d, op, t, pos, af, none⟩ :: rest) ⟨slots.set d' (.sc (.bool want)), H⟩ K1) (h2 : b = (!want) → evalD P A rest ((⟨slots.set d' (.sc (.bool (!want))), H⟩ : St).put d (.sc undef)) K1) :
    evalD P A (⟨d, op, t, pos, af, some (j, want)⟩ :: rest) ⟨slots, H⟩ K1 := by
  show match (A[j]?).bind (·.dst) with | some d' => _ | none => False
  rw [hj]
  show match slots.getD d' .any with | .sc (.bool b) => _ | .sc (.tuple _) => _ | _ => False
  rw [hb]
  exact ⟨fun e => h1 e, h2⟩
theorem r_run (hj : (A[j]?).bind (·.dst) = some d') (hb : slots.getD d' .any = .sc (.bool want)) (hs : slots.set d' (.sc (.bool want)) = slots)
    (h1 : evalR P A (⟨d, op, t, pos, af, none⟩ :: rest) ⟨slots, H⟩ K1) : evalR P A (⟨d, op, t, pos, af, some (j, want)⟩ :: rest) ⟨slots, H⟩ K1 :=
  r_guard hj hb (fun _ => by rw [hs]; exact h1) (fun e => by cases want <;> cases e)
theorem d_run (hj : (A[j]?).bind (·.dst) = some d') (hb : slots.getD d' .any = .sc (.bool want)) (hs : slots.set d' (.sc (.bool want)) = slots)
    (h1 : evalD P A (⟨d, op, t, pos, af, none⟩ :: rest) ⟨slots, H⟩ K1) : evalD P A (⟨d, op, t, pos, af, some (j, want)⟩ :: rest) ⟨slots, H⟩ K1 :=
  d_guard hj hb (fun _ => by rw [hs]; exact h1) (fun e => by cases want <;> cases e)
theorem r_pass (hj : (A[j]?).bind (·.dst) = some d') (hb : slots.getD d' .any = .sc (.bool (!want))) (hs : slots.set d' (.sc (.bool (!want))) = slots)
    (h1 : evalR P A rest ((⟨slots, H⟩ : St).put d (.sc undef)) K1) : evalR P A (⟨d, op, t, pos, af, some (j, want)⟩ :: rest) ⟨slots, H⟩ K1 :=
  r_guard hj hb (fun e => by cases want <;> cases e) (fun _ => by rw [hs]; exact h1)
theorem d_pass (hj : (A[j]?).bind (·.dst) = some d') (hb : slots.getD d' .any = .sc (.bool (!want))) (hs : slots.set d' (.sc (.bool (!want))) = slots)
    (h1 : evalD P A rest ((⟨slots, H⟩ : St).put d (.sc undef)) K1) : evalD P A (⟨d, op, t, pos, af, some (j, want)⟩ :: rest) ⟨slots, H⟩ K1 :=
  d_guard hj hb (fun e => by cases want <;> cases e) (fun _ => by rw [hs]; exact h1)
theorem r_guardPt {p : Prop} [Decidable p] (hj : (A[j]?).bind (·.dst) = some d') (hb : slots.getD d' .any = .sc (.bool (decide p)))
    (h1 : p → evalR P A (⟨d, op, t, pos, af, none⟩ :: rest) ⟨slots.set d' (.sc (.bool true)), H⟩ K1) (h2 : ¬p → evalR P A rest ((⟨slots.set d' (.sc (.bool false)), H⟩ : St).put d (.sc undef)) K1) :
    evalR P A (⟨d, op, t, pos, af, some (j, true)⟩ :: rest) ⟨slots, H⟩ K1 :=
  r_guard hj hb (fun e => h1 (by simpa using e)) (fun e => h2 (by simpa using e))
theorem r_guardNt {p : Prop} [Decidable p] (hj : (A[j]?).bind (·.dst) = some d') (hb : slots.getD d' .any = .sc (.bool (!decide p)))
    (h1 : ¬p → evalR P A (⟨d, op, t, pos, af, none⟩ :: rest) ⟨slots.set d' (.sc (.bool true)), H⟩ K1) (h2 : p → evalR P A rest ((⟨slots.set d' (.sc (.bool false)), H⟩ : St).put d (.sc undef)) K1) :
    evalR P A (⟨d, op, t, pos, af, some (j, true)⟩ :: rest) ⟨slots, H⟩ K1 :=
  r_guard hj hb (fun e => h1 (by simpa using e)) (fun e => h2 (by simpa using e))
theorem r_guardPf {p : Prop} [Decidable p] (hj : (A[j]?).bind (·.dst) = some d') (hb : slots.getD d' .any = .sc (.bool (decide p)))
    (h1 : ¬p → evalR P A (⟨d, op, t, pos, af, none⟩ :: rest) ⟨slots.set d' (.sc (.bool false)), H⟩ K1) (h2 : p → evalR P A rest ((⟨slots.set d' (.sc (.bool true)), H⟩ : St).put d (.sc undef)) K1) :
    evalR P A (⟨d, op, t, pos, af, some (j, false)⟩ :: rest) ⟨slots, H⟩ K1 :=
  r_guard hj hb (fun e => h1 (by simpa using e)) (fun e => h2 (by simpa using e))
theorem r_guardNf {p : Prop} [Decidable p] (hj : (A[j]?).bind (·.dst) = some d') (hb : slots.getD d' .any = .sc (.bool (!decide p)))
    (h1 : p → evalR P A (⟨d, op, t, pos, af, none⟩ :: rest) ⟨slots.set d' (.sc (.bool false)), H⟩ K1) (h2 : ¬p → evalR P A rest ((⟨slots.set d' (.sc (.bool true)), H⟩ : St).put d (.sc undef)) K1) :
    evalR P A (⟨d, op, t, pos, af, some (j, false)⟩ :: rest) ⟨slots, H⟩ K1 :=
  r_guard hj hb (fun e => h1 (by simpa using e)) (fun e => h2 (by simpa using e))
theorem d_guardPt {p : Prop} [Decidable p] (hj : (A[j]?).bind (·.dst) = some d') (hb : slots.getD d' .any = .sc (.bool (decide p)))
    (h1 : p → evalD P A (⟨d, op, t, pos, af, none⟩ :: rest) ⟨slots.set d' (.sc (.bool true)), H⟩ K1) (h2 : ¬p → evalD P A rest ((⟨slots.set d' (.sc (.bool false)), H⟩ : St).put d (.sc undef)) K1) :
    evalD P A (⟨d, op, t, pos, af, some (j, true)⟩ :: rest) ⟨slots, H⟩ K1 :=
  d_guard hj hb (fun e => h1 (by simpa using e)) (fun e => h2 (by simpa using e))
theorem d_guardNt {p : Prop} [Decidable p] (hj : (A[j]?).bind (·.dst) = some d') (hb : slots.getD d' .any = .sc (.bool (!decide p)))
    (h1 : ¬p → evalD P A (⟨d, op, t, pos, af, none⟩ :: rest) ⟨slots.set d' (.sc (.bool true)), H⟩ K1) (h2 : p → evalD P A rest ((⟨slots.set d' (.sc (.bool false)), H⟩ : St).put d (.sc undef)) K1) :
    evalD P A (⟨d, op, t, pos, af, some (j, true)⟩ :: rest) ⟨slots, H⟩ K1 :=
  d_guard hj hb (fun e => h1 (by simpa using e)) (fun e => h2 (by simpa using e))
theorem d_guardPf {p : Prop} [Decidable p] (hj : (A[j]?).bind (·.dst) = some d') (hb : slots.getD d' .any = .sc (.bool (decide p)))
    (h1 : ¬p → evalD P A (⟨d, op, t, pos, af, none⟩ :: rest) ⟨slots.set d' (.sc (.bool false)), H⟩ K1) (h2 : p → evalD P A rest ((⟨slots.set d' (.sc (.bool true)), H⟩ : St).put d (.sc undef)) K1) :
    evalD P A (⟨d, op, t, pos, af, some (j, false)⟩ :: rest) ⟨slots, H⟩ K1 :=
  d_guard hj hb (fun e => h1 (by simpa using e)) (fun e => h2 (by simpa using e))
theorem d_guardNf {p : Prop} [Decidable p] (hj : (A[j]?).bind (·.dst) = some d') (hb : slots.getD d' .any = .sc (.bool (!decide p)))
    (h1 : p → evalD P A (⟨d, op, t, pos, af, none⟩ :: rest) ⟨slots.set d' (.sc (.bool false)), H⟩ K1) (h2 : ¬p → evalD P A rest ((⟨slots.set d' (.sc (.bool true)), H⟩ : St).put d (.sc undef)) K1) :
    evalD P A (⟨d, op, t, pos, af, some (j, false)⟩ :: rest) ⟨slots, H⟩ K1 :=
  d_guard hj hb (fun e => h1 (by simpa using e)) (fun e => h2 (by simpa using e))
theorem r_void {arr : Array Value} (hj : (A[j]?).bind (·.dst) = some d') (hb : slots.getD d' .any = .sc (.tuple arr)) (h : evalR P A rest ((⟨slots, H⟩ : St).put d (.sc undef)) K1) : evalR P A (⟨d, op, t, pos, af, some (j, want)⟩ :: rest) ⟨slots, H⟩ K1 := by
  show match (A[j]?).bind (·.dst) with | some d' => _ | none => False
  rw [hj]
  show match slots.getD d' .any with | .sc (.bool b) => _ | .sc (.tuple _) => _ | _ => False
  rw [hb]
  exact h
theorem d_void {arr : Array Value} (hj : (A[j]?).bind (·.dst) = some d') (hb : slots.getD d' .any = .sc (.tuple arr)) (h : evalD P A rest ((⟨slots, H⟩ : St).put d (.sc undef)) K1) : evalD P A (⟨d, op, t, pos, af, some (j, want)⟩ :: rest) ⟨slots, H⟩ K1 := by
  show match (A[j]?).bind (·.dst) with | some d' => _ | none => False
  rw [hj]
  show match slots.getD d' .any with | .sc (.bool b) => _ | .sc (.tuple _) => _ | _ => False
  rw [hb]
  exact h
theorem r_call {x : Operand} {args : Array Operand} {ats : Array TypeId} (h : CallS P (ev slots x) (args.toList.map (ev slots)) ⟨slots, H⟩ fun v s' => evalR P A rest (s'.put d v) K1) :
    evalR P A (⟨d, .call { callee := .value x, args := args, argTypes := ats }, t, pos, af, none⟩ :: rest) ⟨slots, H⟩ K1 := h
theorem d_call {x : Operand} {args : Array Operand} {ats : Array TypeId} (h : CallD P (ev slots x) (args.toList.map (ev slots)) fun v => evalD P A rest ((⟨slots, H⟩ : St).put d v) K1) :
    evalD P A (⟨d, .call { callee := .value x, args := args, argTypes := ats }, t, pos, af, none⟩ :: rest) ⟨slots, H⟩ K1 := h
theorem r_fn {f : FuncId} {args : Array Operand} {ats : Array TypeId} {x : Operand} {caps us : List V} {r : V} (hx : ev slots x = .fn f caps) (hs : Fn P f us r) (hb : hasBody P f) (hle : LeL (args.toList.map (ev slots) ++ caps) us) (hd : V.dataL us = true)
    (h : evalR P A rest ⟨(slots).set D r, H⟩ K1) : evalR P A (⟨some D, .call { callee := .value x, args := args, argTypes := ats }, t, pos, af, none⟩ :: rest) ⟨slots, H⟩ K1 := by
  refine r_call ?_
  rw [hx]
  exact CallS.fn hs hb hle hd h
theorem d_fn {f : FuncId} {args : Array Operand} {ats : Array TypeId} {x : Operand} {caps us : List V} {r : V} (hx : ev slots x = .fn f caps) (hs : Fn P f us r) (hb : hasBody P f) (hle : LeL (args.toList.map (ev slots) ++ caps) us) (hd : V.dataL us = true)
    (h : evalD P A rest ⟨(slots).set D r, H⟩ K1) : evalD P A (⟨some D, .call { callee := .value x, args := args, argTypes := ats }, t, pos, af, none⟩ :: rest) ⟨slots, H⟩ K1 := by
  refine d_call ?_
  rw [hx]
  exact CallD.fn hs hb hle hd h
theorem r_box {x : Operand} {T : TypeId} (hf : look H D = none) (hok : (ev slots x).okCells = true) (h : evalR P A rest ⟨slots.set D (.ptr D 0 0), (D, .var T (ev slots x)) :: H⟩ K1) :
    evalR P A (⟨some D, .box T x, t, pos, af, none⟩ :: rest) ⟨slots, H⟩ K1 := ⟨hf, hok, h⟩
theorem r_alloc {T : TypeId} {z : V} (hz : zv P T = some z) (hf : look H D = none) (hok : z.okCells = true) (h : evalR P A rest ⟨slots.set D (.ptr D 0 0), (D, .var T z) :: H⟩ K1) :
    evalR P A (⟨some D, .alloc T, t, pos, af, none⟩ :: rest) ⟨slots, H⟩ K1 := by
  refine ⟨hf, ?_⟩
  show match zv P T with | some z => _ | none => False
  rw [hz]
  exact ⟨hok, h⟩
theorem d_box {x : Operand} {T : TypeId} (hf : look H D = none) (hok : (ev slots x).okCells = true) (h : evalD P A rest ⟨slots.set D (.ptr D 0 0), (D, .var T (ev slots x)) :: H⟩ K1) :
    evalD P A (⟨some D, .box T x, t, pos, af, none⟩ :: rest) ⟨slots, H⟩ K1 := ⟨hf, hok, h⟩
theorem d_alloc {T : TypeId} {z : V} (hz : zv P T = some z) (hf : look H D = none) (hok : z.okCells = true) (h : evalD P A rest ⟨slots.set D (.ptr D 0 0), (D, .var T z) :: H⟩ K1) :
    evalD P A (⟨some D, .alloc T, t, pos, af, none⟩ :: rest) ⟨slots, H⟩ K1 := by
  show match some D, zv P T with | some d, some z => _ | _, _ => False
  rw [hz]
  exact ⟨hf, hok, h⟩
theorem r_store {T : TypeId} {a x : Operand} {ag : Bool} {n id i fo : Nat} {ob : Obj} (ht : tyv P T = some (ag, n)) (ha : ev slots a = .ptr id i fo) (ho : look H id = some ob)
    (hi : i < ob.len ∧ fo + n ≤ (ob.elem i).cells.length ∧ 0 < n ∧ (ev slots x).cells.length = n ∧ (ev slots x).okCells = true ∧ (isVar ob = true ∨ (ev slots x).data = true))
    (h : evalR P A rest ((⟨slots, upd H id (ob.wr i fo (ev slots x).cells)⟩ : St).put d .any) K1) : evalR P A (⟨d, .store T a x, t, pos, af, none⟩ :: rest) ⟨slots, H⟩ K1 := by
  show match tyv P T with | some (_, n) => _ | none => False
  rw [ht]
  show match ev slots a with | .ptr id i fo => _ | _ => False
  rw [ha]
  show match look H id with | some ob => _ | none => False
  rw [ho]
  exact ⟨hi.1, hi.2.1, hi.2.2.1, hi.2.2.2.1, hi.2.2.2.2.1, hi.2.2.2.2.2, h⟩
theorem d_store {T : TypeId} {a x : Operand} {ag : Bool} {n id i fo : Nat} {ob : Obj} (ht : tyv P T = some (ag, n)) (ha : ev slots a = .ptr id i fo) (ho : look H id = some ob)
    (hi : i < ob.len ∧ fo + n ≤ (ob.elem i).cells.length ∧ 0 < n ∧ (ev slots x).cells.length = n ∧ (ev slots x).okCells = true ∧ (isVar ob = true ∨ (ev slots x).data = true))
    (h : evalD P A rest ((⟨slots, upd H id (ob.wr i fo (ev slots x).cells)⟩ : St).put d .any) K1) : evalD P A (⟨d, .store T a x, t, pos, af, none⟩ :: rest) ⟨slots, H⟩ K1 := by
  show match tyv P T with | some (_, n) => _ | none => False
  rw [ht]
  show match ev slots a with | .ptr id i fo => _ | _ => False
  rw [ha]
  show match look H id with | some ob => _ | none => False
  rw [ho]
  exact ⟨hi.1, hi.2.1, hi.2.2.1, hi.2.2.2.1, hi.2.2.2.2.1, hi.2.2.2.2.2, h⟩
theorem r_storeM {α : Type} [Inhabited α] {g : α → V} {xs : List α} {T T' : TypeId} {s' : Nat} {a x : Operand} {ag : Bool} {n id i fo : Nat} (ht : tyv P T = some (ag, n)) (ha : ev slots a = .ptr id i fo) (ho : look H id = some (.lst T' s' (xs.map g)))
    (hi : i < xs.length) (hc : fo + n ≤ (g (xs.getD i default)).cells.length ∧ 0 < n ∧ (ev slots x).cells.length = n ∧ (ev slots x).okCells = true ∧ (ev slots x).data = true)
    (h : evalR P A rest ((⟨slots, upd H id (.lst T' s' ((xs.map g).set i (splice (g (xs.getD i default)) fo (ev slots x).cells)))⟩ : St).put d .any) K1) : evalR P A (⟨d, .store T a x, t, pos, af, none⟩ :: rest) ⟨slots, H⟩ K1 := by
  have e1 : (xs.map g).getD i .any = g (xs.getD i default) := getD_map g xs i .any hi
  refine r_store ht ha ho ⟨by simpa [Obj.len] using hi, by simp only [Obj.elem, e1]; exact hc.1, hc.2.1, hc.2.2.1, hc.2.2.2.1, .inr hc.2.2.2.2⟩ ?_
  simp only [Obj.wr, e1]
  exact h
theorem d_storeM {α : Type} [Inhabited α] {g : α → V} {xs : List α} {T T' : TypeId} {s' : Nat} {a x : Operand} {ag : Bool} {n id i fo : Nat} (ht : tyv P T = some (ag, n)) (ha : ev slots a = .ptr id i fo) (ho : look H id = some (.lst T' s' (xs.map g)))
    (hi : i < xs.length) (hc : fo + n ≤ (g (xs.getD i default)).cells.length ∧ 0 < n ∧ (ev slots x).cells.length = n ∧ (ev slots x).okCells = true ∧ (ev slots x).data = true)
    (h : evalD P A rest ((⟨slots, upd H id (.lst T' s' ((xs.map g).set i (splice (g (xs.getD i default)) fo (ev slots x).cells)))⟩ : St).put d .any) K1) : evalD P A (⟨d, .store T a x, t, pos, af, none⟩ :: rest) ⟨slots, H⟩ K1 := by
  have e1 : (xs.map g).getD i .any = g (xs.getD i default) := getD_map g xs i .any hi
  refine d_store ht ha ho ⟨by simpa [Obj.len] using hi, by simp only [Obj.elem, e1]; exact hc.1, hc.2.1, hc.2.2.1, hc.2.2.2.1, .inr hc.2.2.2.2⟩ ?_
  simp only [Obj.wr, e1]
  exact h
theorem r_storeW {T T' : TypeId} {a x : Operand} {ag : Bool} {n id : Nat} {v : V} (ht : tyv P T = some (ag, n)) (ha : ev slots a = .ptr id 0 0) (ho : look H id = some (.var T' v))
    (hi : n ≤ v.cells.length ∧ 0 < n ∧ (ev slots x).cells.length = n ∧ (ev slots x).okCells = true) (hs : splice v 0 (ev slots x).cells = ev slots x)
    (h : evalR P A rest ⟨slots, upd H id (.var T' (ev slots x))⟩ K1) : evalR P A (⟨none, .store T a x, t, pos, af, none⟩ :: rest) ⟨slots, H⟩ K1 := by
  refine r_store (i := 0) (fo := 0) ht ha ho ⟨Nat.one_pos, by simpa [Obj.elem] using hi.1, hi.2.1, hi.2.2.1, hi.2.2.2, .inl rfl⟩ ?_
  simp only [Obj.wr, hs, St.put]
  exact h
theorem d_storeW {T T' : TypeId} {a x : Operand} {ag : Bool} {n id : Nat} {v : V} (ht : tyv P T = some (ag, n)) (ha : ev slots a = .ptr id 0 0) (ho : look H id = some (.var T' v))
    (hi : n ≤ v.cells.length ∧ 0 < n ∧ (ev slots x).cells.length = n ∧ (ev slots x).okCells = true) (hs : splice v 0 (ev slots x).cells = ev slots x)
    (h : evalD P A rest ⟨slots, upd H id (.var T' (ev slots x))⟩ K1) : evalD P A (⟨none, .store T a x, t, pos, af, none⟩ :: rest) ⟨slots, H⟩ K1 := by
  refine d_store (i := 0) (fo := 0) ht ha ho ⟨Nat.one_pos, by simpa [Obj.elem] using hi.1, hi.2.1, hi.2.2.1, hi.2.2.2, .inl rfl⟩ ?_
  simp only [Obj.wr, hs, St.put]
  exact h
theorem r_build {T te : TypeId} {n sz by_ : Nat} {parts : Array (Nat × Operand)} (ht : slv P T = some (te, sz, by_)) (hz : zok P te sz) (hn : 0 < sz ∧ n * sz ≤ 16777216 ∧ (parts.toList.map (·.1)) = List.range n)
    (hd : V.dataL (parts.toList.map fun p => ev slots p.2) = true ∧ Storable (parts.toList.map fun p => ev slots p.2) ∧ Stride sz (parts.toList.map fun p => ev slots p.2))
    (h : evalR P A rest ⟨(slots).set D (.sl true (parts.toList.map fun p => ev slots p.2)), H⟩ K1) : evalR P A (⟨some D, .buildSlice T n parts, t, pos, af, none⟩ :: rest) ⟨slots, H⟩ K1 := by
  show match slv P T with | some (te, sz, _) => _ | none => False
  rw [ht]
  exact ⟨hn.1, hn.2.1, hz, hn.2.2, hd.1, hd.2.1, hd.2.2, .inl h⟩
theorem r_buildOwn {T te : TypeId} {n sz by_ : Nat} {parts : Array (Nat × Operand)} (ht : slv P T = some (te, sz, by_)) (hz : zok P te sz) (hn : 0 < sz ∧ n * sz ≤ 16777216 ∧ (parts.toList.map (·.1)) = List.range n)
    (hd : V.dataL (parts.toList.map fun p => ev slots p.2) = true ∧ Storable (parts.toList.map fun p => ev slots p.2) ∧ Stride sz (parts.toList.map fun p => ev slots p.2))
    (hn0 : 0 < n) (hf : look H D = none) (h : evalR P A rest ⟨(slots).set D (.own D), (D, .lst te sz (parts.toList.map fun p => ev slots p.2)) :: H⟩ K1) : evalR P A (⟨some D, .buildSlice T n parts, t, pos, af, none⟩ :: rest) ⟨slots, H⟩ K1 := by
  show match slv P T with | some (te, sz, _) => _ | none => False
  rw [ht]
  exact ⟨hn.1, hn.2.1, hz, hn.2.2, hd.1, hd.2.1, hd.2.2, .inr ⟨hn0, hf, h⟩⟩
theorem d_build {T te : TypeId} {n sz by_ : Nat} {parts : Array (Nat × Operand)} (ht : slv P T = some (te, sz, by_)) (hz : zok P te sz) (hn : 0 < sz ∧ n * sz ≤ 16777216 ∧ (parts.toList.map (·.1)) = List.range n)
    (hd : V.dataL (parts.toList.map fun p => ev slots p.2) = true ∧ Storable (parts.toList.map fun p => ev slots p.2) ∧ Stride sz (parts.toList.map fun p => ev slots p.2))
    (h : evalD P A rest ⟨(slots).set D (.sl true (parts.toList.map fun p => ev slots p.2)), H⟩ K1) : evalD P A (⟨some D, .buildSlice T n parts, t, pos, af, none⟩ :: rest) ⟨slots, H⟩ K1 := by
  show match slv P T with | some (te, sz, _) => _ | none => False
  rw [ht]
  exact ⟨hn.1, hn.2.1, hz, hn.2.2, hd.1, hd.2.1, hd.2.2, h⟩
theorem r_append_own {a b : Operand} {T T' te : TypeId} {sz by_ id : Nat} {es ns : List V} {f : Bool} (ht : slv P T = some (te, sz, by_)) (ht' : (slv P T').isSome = true) (hz : zok P te sz) (hp : 0 < sz) (ha : ev slots a = .own id) (hb : ev slots b = .sl f ns)
    (hl : look H id = some (.lst te sz es)) (hns : Storable ns ∧ Stride sz ns) (hcap : (es.length + ns.length) * by_ ≤ 140737488355328 ∧ es.length + ns.length ≤ 140737488355328)
    (h : evalR P A rest ⟨(V.killL id slots).set D (.own id), updK id (.lst te sz (es ++ ns)) H⟩ K1) : evalR P A (⟨some D, .call { callee := .builtin .append, args := #[a, b], argTypes := #[T, T'] }, t, pos, af, none⟩ :: rest) ⟨slots, H⟩ K1 := by
  show match slv P T with | some (te, sz, by_) => _ | none => False
  rw [ht]
  refine .inr ⟨hp, hz, ?_⟩
  rw [show ev (St.mk slots H).slots b = .sl f ns from hb]
  refine ⟨ht', hns.2, hns.1, ?_⟩
  rw [show ev (St.mk slots H).slots a = .own id from ha]
  show match look H id with | some (.lst te' sz' es) => _ | _ => False
  rw [hl]
  exact ⟨rfl, rfl, hcap.1, hcap.2, h⟩
theorem r_append_nil {a b : Operand} {T T' te : TypeId} {sz by_ : Nat} {ns : List V} {f : Bool} (ht : slv P T = some (te, sz, by_)) (ht' : (slv P T').isSome = true) (hz : zok P te sz) (hp : 0 < sz) (ha : ev slots a = V.nilS) (hb : ev slots b = .sl f ns)
    (hns : Storable ns ∧ Stride sz ns) (hcap : ns.length * by_ ≤ 140737488355328 ∧ ns.length ≤ 140737488355328) (hf : look H D = none)
    (h : evalR P A rest ⟨slots.set D (.own D), (D, .lst te sz ns) :: H⟩ K1) : evalR P A (⟨some D, .call { callee := .builtin .append, args := #[a, b], argTypes := #[T, T'] }, t, pos, af, none⟩ :: rest) ⟨slots, H⟩ K1 := by
  show match slv P T with | some (te, sz, by_) => _ | none => False
  rw [ht]
  refine .inr ⟨hp, hz, ?_⟩
  rw [show ev (St.mk slots H).slots b = .sl f ns from hb]
  refine ⟨ht', hns.2, hns.1, ?_⟩
  rw [show ev (St.mk slots H).slots a = V.nilS from ha]
  exact ⟨hcap.1, hcap.2, hf, h⟩
theorem r_append_full {a b : Operand} {T T' te : TypeId} {sz by_ : Nat} {es ns : List V} {f : Bool} (ht : slv P T = some (te, sz, by_)) (ht' : (slv P T').isSome = true) (hz : zok P te sz) (hp : 0 < sz) (ha : ev slots a = .sl true es) (hb : ev slots b = .sl f ns)
    (hns : Storable ns ∧ Stride sz ns) (hes : Stride sz es) (hcap : (es.length + ns.length) * by_ ≤ 140737488355328 ∧ es.length + ns.length ≤ 140737488355328) (hf : look H D = none)
    (h1 : ns = [] → evalR P A rest ⟨slots.set D (.sl true es), H⟩ K1) (h2 : ns ≠ [] → evalR P A rest ⟨slots.set D (.own D), (D, .lst te sz (es ++ ns)) :: H⟩ K1) :
    evalR P A (⟨some D, .call { callee := .builtin .append, args := #[a, b], argTypes := #[T, T'] }, t, pos, af, none⟩ :: rest) ⟨slots, H⟩ K1 := by
  show match slv P T with | some (te, sz, by_) => _ | none => False
  rw [ht]
  refine .inr ⟨hp, hz, ?_⟩
  rw [show ev (St.mk slots H).slots b = .sl f ns from hb]
  refine ⟨ht', hns.2, hns.1, ?_⟩
  rw [show ev (St.mk slots H).slots a = .sl true es from ha]
  exact ⟨hes, hcap.1, hcap.2, h1, fun hne => ⟨hf, h2 hne⟩⟩
theorem r_append_full1 {a b : Operand} {T T' te : TypeId} {sz by_ : Nat} {es ns : List V} {n0 : V} {f : Bool} (ht : slv P T = some (te, sz, by_)) (ht' : (slv P T').isSome = true) (hz : zok P te sz) (hp : 0 < sz) (ha : ev slots a = .sl true es) (hb : ev slots b = .sl f (n0 :: ns))
    (hns : Storable (n0 :: ns) ∧ Stride sz (n0 :: ns)) (hes : Stride sz es) (hcap : (es.length + (n0 :: ns).length) * by_ ≤ 140737488355328 ∧ es.length + (n0 :: ns).length ≤ 140737488355328) (hf : look H D = none)
    (h2 : evalR P A rest ⟨slots.set D (.own D), (D, .lst te sz (es ++ n0 :: ns)) :: H⟩ K1) :
    evalR P A (⟨some D, .call { callee := .builtin .append, args := #[a, b], argTypes := #[T, T'] }, t, pos, af, none⟩ :: rest) ⟨slots, H⟩ K1 :=
  r_append_full ht ht' hz hp ha hb hns hes hcap hf (fun e => by cases e) (fun _ => h2)
theorem r_append_zeros {α : Type} (g : α → V) (z0 : α) {a b : Operand} {T T' te : TypeId} {sz by_ n : Nat} {ik k : IntKind} (ht : slv P T = some (te, sz, by_)) (hu : P.underlying T' = some (.int ik)) (ha : ev slots a = V.nilS) (hb : ev slots b = .sc (.int k n))
    (hz : zv P te = some (g z0)) (hn : 0 < n ∧ n * by_ ≤ 140737488355328 ∧ n ≤ 140737488355328 ∧ 0 < sz) (hok : (g z0).cells.length = sz ∧ (g z0).okCells = true) (hf : look H D = none)
    (h : evalR P A rest ⟨slots.set D (.own D), (D, .lst te sz ((List.replicate n z0).map g)) :: H⟩ K1) : evalR P A (⟨some D, .call { callee := .builtin .append, args := #[a, b], argTypes := #[T, T'] }, t, pos, af, none⟩ :: rest) ⟨slots, H⟩ K1 := by
  show match slv P T with | some (te, sz, by_) => _ | none => False
  rw [ht]
  refine .inl (.inl ⟨ik, k, n, g z0, hu, hb, ha, ⟨by omega, by rw [Int.toNat_natCast]; exact hn.2.1, by omega, hn.2.2.2⟩, hz, hok, hf, ?_⟩)
  rw [Int.toNat_natCast, ← List.map_replicate]
  exact h
theorem r_cut {x hi : Operand} {T te te' : TypeId} {sz by_ id : Nat} {es : List V} {k : IntKind} {l : Int} (ht : slv P T = some (te, sz, by_)) (hx : ev slots x = .own id) (ho : look H id = some (.lst te' sz es)) (hh : ev slots hi = .sc (.int k l)) (hb : 0 ≤ l ∧ l ≤ es.length)
    (h : evalR P A rest ⟨(V.killL id slots).set D (.own id), updK id (.lst te' sz (es.take l.toNat)) H⟩ K1) : evalR P A (⟨some D, .slice T x none (some hi) none, t, pos, af, none⟩ :: rest) ⟨slots, H⟩ K1 :=
  .inr (.inl ⟨te, sz, by_, id, te', es, k, l, ht, rfl, rfl, congrArg some hh, hx, ho, hb, h⟩)
theorem r_cutN {x hi : Operand} {T te : TypeId} {sz by_ : Nat} {k : IntKind} (ht : slv P T = some (te, sz, by_)) (hx : ev slots x = V.nilS) (hh : ev slots hi = .sc (.int k 0)) (h : evalR P A rest ⟨slots.set D V.nilS, H⟩ K1) : evalR P A (⟨some D, .slice T x none (some hi) none, t, pos, af, none⟩ :: rest) ⟨slots, H⟩ K1 :=
  .inr (.inr ⟨te, sz, by_, k, ht, rfl, rfl, congrArg some hh, hx, h⟩)
theorem r_make {T te : TypeId} {l c : Operand} {sz by_ : Nat} {k k' : IntKind} {n : Int} {z : V} (ht : slv P T = some (te, sz, by_)) (hl : ev slots l = .sc (.int k n)) (hc : ev slots c = .sc (.int k' n)) (hz : zv P te = some z)
    (hn : 0 ≤ n ∧ n.toNat * by_ ≤ 140737488355328 ∧ n ≤ 140737488355328 ∧ 0 < sz) (hok : z.cells.length = sz ∧ z.okCells = true) (hf : look H D = none)
    (h : evalR P A rest ⟨slots.set D (.own D), (D, .lst te sz (List.replicate n.toNat z)) :: H⟩ K1) : evalR P A (⟨some D, .makeSlice T l c, t, pos, af, none⟩ :: rest) ⟨slots, H⟩ K1 := by
  show match slv P T, ev slots l, ev slots c with | some (te, sz, by_), .sc (.int _ n), .sc (.int _ m) => _ | _, _, _ => False
  rw [ht, hl, hc]
  show match zv P te with | some z => _ | none => False
  rw [hz]
  exact ⟨rfl, hn.1, hn.2.1, hn.2.2.1, hn.2.2.2, hok.1, hok.2, hf, .inl h⟩
theorem r_makeR {T te : TypeId} {l c : Operand} {sz by_ : Nat} {k k' : IntKind} {n : Int} {z : V} (ht : slv P T = some (te, sz, by_)) (hl : ev slots l = .sc (.int k n)) (hc : ev slots c = .sc (.int k' n)) (hz : zv P te = some z)
    (hn : 0 ≤ n ∧ n.toNat * by_ ≤ 140737488355328 ∧ n ≤ 140737488355328 ∧ 0 < sz) (hok : z.cells.length = sz ∧ z.okCells = true) (hf : look H D = none)
    (h : evalR P A rest ⟨slots.set D (.vw D 0 n.toNat n.toNat), (D, .row te sz (List.replicate n.toNat z)) :: H⟩ K1) : evalR P A (⟨some D, .makeSlice T l c, t, pos, af, none⟩ :: rest) ⟨slots, H⟩ K1 := by
  show match slv P T, ev slots l, ev slots c with | some (te, sz, by_), .sc (.int _ n), .sc (.int _ m) => _ | _, _, _ => False
  rw [ht, hl, hc]
  show match zv P te with | some z => _ | none => False
  rw [hz]
  exact ⟨rfl, hn.1, hn.2.1, hn.2.2.1, hn.2.2.2, hok.1, hok.2, hf, .inr h⟩
variable {T : TypeId} {x y : Operand} {ty : TypeId} {k k' : IntKind} {m n : Int}
theorem r_eql (hx : ev slots x = .sc (.int k m)) (hy : ev slots y = .sc (.int k' n)) (hk : k = k') (h : evalR P A rest ⟨slots.set D (.sc (.bool (decide (m = n)))), H⟩ K1) :
    evalR P A (⟨some D, .binOp .eql T x y ty, t, pos, af, none⟩ :: rest) ⟨slots, H⟩ K1 := by
  rw [evalR_cons]
  simp only [stepR, opK, hx, hy, valK, binK, intK, cmpK]
  exact ⟨hk, h⟩
theorem d_eql (hx : ev slots x = .sc (.int k m)) (hy : ev slots y = .sc (.int k' n)) (hk : k = k') (h : evalD P A rest ⟨slots.set D (.sc (.bool (decide (m = n)))), H⟩ K1) :
    evalD P A (⟨some D, .binOp .eql T x y ty, t, pos, af, none⟩ :: rest) ⟨slots, H⟩ K1 := by
  rw [evalD_cons]
  simp only [dK, hx, hy, valK, binK, intK, cmpK]
  exact ⟨hk, h⟩
theorem r_eqlB {p q : Bool} (hx : ev slots x = .sc (.bool p)) (hy : ev slots y = .sc (.bool q)) (hu : P.underlying T = some .bool) (h : evalR P A rest ⟨(slots).set D (.sc (.bool (p == q))), H⟩ K1) :
    evalR P A (⟨some D, .binOp .eql T x y ty, t, pos, af, none⟩ :: rest) ⟨slots, H⟩ K1 := by
  rw [evalR_cons]
  simp only [stepR, opK, hx, hy, valK, binK]
  exact ⟨hu, h⟩
theorem r_eqlA {cs ds : List V} (hx : ev slots x = .agg cs) (hy : ev slots y = .agg ds) {zs : List V} (hu : eqlT P T zs) (hz : plainCells zs cs = true) (hp : plainCells cs ds = true) (h : evalR P A rest ⟨(slots).set D (.sc (.bool (eqCells cs ds))), H⟩ K1) :
    evalR P A (⟨some D, .binOp .eql T x y ty, t, pos, af, none⟩ :: rest) ⟨slots, H⟩ K1 := by
  rw [evalR_cons]
  simp only [stepR, opK, hx, hy, valK, binK]
  exact ⟨⟨_, hu, hz, hp⟩, h⟩
theorem d_eqlA {cs ds : List V} (hx : ev slots x = .agg cs) (hy : ev slots y = .agg ds) {zs : List V} (hu : eqlT P T zs) (hz : plainCells zs cs = true) (hp : plainCells cs ds = true) (h : evalD P A rest ⟨(slots).set D (.sc (.bool (eqCells cs ds))), H⟩ K1) :
    evalD P A (⟨some D, .binOp .eql T x y ty, t, pos, af, none⟩ :: rest) ⟨slots, H⟩ K1 := by
  rw [evalD_cons]
  simp only [dK, hx, hy, valK, binK]
  exact ⟨⟨_, hu, hz, hp⟩, h⟩
theorem r_isNil {f : Bool} {es : List V} (hx : ev slots x = .sl f es) (hy : ev slots y = V.nilS) (hu : (slv P T).isSome = true) (h1 : es ≠ [] → evalR P A rest ⟨(slots).set D (.sc (.bool false)), H⟩ K1)
    (h2 : es = [] → ∀ b, evalR P A rest ⟨(slots).set D (.sc (.bool b)), H⟩ K1) : evalR P A (⟨some D, .binOp .eql T x y ty, t, pos, af, none⟩ :: rest) ⟨slots, H⟩ K1 := by
  rw [evalR_cons]
  simp only [stepR, opK, hx, hy]
  exact ⟨hu, h1, h2⟩
end
section
variable {P : Program} {e : Operand → V} {H : Heap} {K : V → Prop} {t T : TypeId} {x y c a b : Operand} {v u : V} {ag : Bool} {n off sz by_ id i fo : Nat} {k k' : IntKind} {p q : Int} {f : Bool} {es : List V}
theorem v_move (h : K (e x)) : valK P (.move x) e H K := h
theorem v_assign (h : K (e x)) : valK P (.assign x) e H K := h
theorem v_pick_t (hc : e c = .sc (.bool true)) (h : K (e a)) : valK P (.pick c a b) e H K := by simp only [valK, hc]; exact h
theorem v_pick_f (hc : e c = .sc (.bool false)) (h : K (e b)) : valK P (.pick c a b) e H K := by simp only [valK, hc]; exact h
theorem v_pick {B : Bool} (hc : e c = .sc (.bool B)) (h : K (if B then e a else e b)) : valK P (.pick c a b) e H K := by simp only [valK, hc]; exact h
theorem v_load_pt (ht : tyv P t = some (ag, n)) (hx : e x = .pt v) (hl : v.cells.length = n) (hn : 0 < n ∨ ag = true) (hs : v.sub ag 0 n = v) (h : K v) : valK P (.load t x) e H K := by
  simp only [valK, ht, hx]
  exact ⟨by omega, hn, by rw [hs]; exact h⟩
theorem v_load_var (ht : tyv P t = some (ag, n)) (hx : e x = .ptr id 0 0) (ho : look H id = some (.var T v)) (hl : v.cells.length = n) (hn : 0 < n ∨ ag = true) (hs : v.sub ag 0 n = v) (h : K v) : valK P (.load t x) e H K := by
  simp only [valK, ht, hx, ho, Obj.len, Obj.elem]
  exact ⟨by omega, by omega, hn, by rw [hs]; exact h⟩
theorem v_load_part (ht : tyv P t = some (ag, n)) (hx : e x = .ptr id 0 fo) (ho : look H id = some (.var T v)) (hl : fo + n ≤ v.cells.length) (hn : 0 < n ∨ ag = true) (h : K (v.sub ag fo n)) : valK P (.load t x) e H K := by
  simp only [valK, ht, hx, ho, Obj.len, Obj.elem]
  exact ⟨by omega, hl, hn, h⟩
theorem v_load_ptr {o : Obj} (ht : tyv P t = some (ag, n)) (hx : e x = .ptr id i fo) (ho : look H id = some o) (hi : i < o.len) (hl : fo + n ≤ (o.elem i).cells.length) (hn : 0 < n ∨ ag = true) (h : K ((o.elem i).sub ag fo n)) : valK P (.load t x) e H K := by
  simp only [valK, ht, hx, ho]
  exact ⟨hi, hl, hn, h⟩
theorem v_fieldAddr_pt {fd : Nat} (hf : fldv P t fd = some (off, ag, n)) (hx : e x = .pt v) (hl : off + n ≤ v.cells.length) (hu : V.fits ag n (v.sub ag off n)) (h : K (.pt (v.sub ag off n))) : valK P (.fieldAddr t x fd) e H K := by
  simp only [valK, hf, hx]
  exact ⟨hl, hu, h⟩
theorem v_fieldAddr_ptr {fd : Nat} (hf : fldv P t fd = some (off, ag, n)) (hx : e x = .ptr id i fo) (h : K (.ptr id i (fo + off))) : valK P (.fieldAddr t x fd) e H K := by
  simp only [valK, hf, hx]
  exact h
theorem v_fieldAddr_sc {fd g a : Nat} (hf : fldv P t fd = some (off, ag, n)) (hx : e x = .sc (.pointer (some ⟨g, a, none⟩))) (h : K (.sc (.pointer (some ⟨g, a + off, none⟩)))) : valK P (.fieldAddr t x fd) e H K := by
  simp only [valK, hf, hx]
  exact h
theorem v_indexAddr_sc {te : TypeId} {j : Int} {g a len c : Nat} (hs : slv P t = some (te, sz, by_)) (hx : e x = .sc (.slice (some ⟨g, a, none⟩) len c)) (hi : e y = .sc (.int k j)) (hj : 0 ≤ j ∧ j < len) (h : K (.sc (.pointer (some ⟨g, a + j.toNat * sz, none⟩)))) : valK P (.indexAddr t x y) e H K := by
  simp only [valK, hs, hx, hi]
  exact ⟨hj, h⟩
theorem v_field {fd : Nat} {cs : List V} (hf : fldv P t fd = some (off, ag, n)) (hx : e x = .agg cs) (hl : off + n ≤ cs.length) (h : K ((V.agg cs).sub ag off n)) : valK P (.field t x fd) e H K := by
  simp only [valK, hf, hx]
  exact ⟨hl, h⟩
theorem v_nilCheck_pt (hx : e x = .pt v) (h : K (.pt v)) : valK P (.nilCheck x) e H K := by simp only [valK, hx]; exact h
theorem v_nilCheck_ptr (hx : e x = .ptr id i fo) (h : K (.ptr id i fo)) : valK P (.nilCheck x) e H K := by simp only [valK, hx]; exact h
theorem v_indexAddr_sl {te : TypeId} {j : Int} (hs : slv P t = some (te, sz, by_)) (hx : e x = .sl f es) (hi : e y = .sc (.int k j)) (hj : 0 ≤ j ∧ j < es.length) (hc : (es.getD j.toNat .any).cells.length = sz) (h : K (.pt (es.getD j.toNat .any))) : valK P (.indexAddr t x y) e H K := by
  simp only [valK, hs, hx, hi]
  exact ⟨hj, hc, h⟩
theorem v_indexAddr_map {α : Type} [Inhabited α] {g : α → V} {xs : List α} {te : TypeId} {j : Nat} (hs : slv P t = some (te, sz, by_)) (hx : e x = .sl f (xs.map g)) (hi : e y = .sc (.int k (j : Int))) (hj : j < xs.length) (hc : (g (xs.getD j default)).cells.length = sz)
    (h : K (.pt (g (xs.getD j default)))) : valK P (.indexAddr t x y) e H K := by
  have e1 : (xs.map g).getD j .any = g (xs.getD j default) := getD_map g xs j .any hj
  simp only [valK, hs, hx, hi, Int.toNat_natCast, e1]
  exact ⟨⟨by omega, by rw [List.length_map]; omega⟩, hc, h⟩
theorem v_indexAddr_mapZ {α : Type} [Inhabited α] {g : α → V} {xs : List α} {te : TypeId} {j : Int} (hs : slv P t = some (te, sz, by_)) (hx : e x = .sl f (xs.map g)) (hi : e y = .sc (.int k j)) (hj : 0 ≤ j ∧ j < xs.length) (hc : (g (xs.getD j.toNat default)).cells.length = sz)
    (h : K (.pt (g (xs.getD j.toNat default)))) : valK P (.indexAddr t x y) e H K := by
  have e1 : (xs.map g).getD j.toNat .any = g (xs.getD j.toNat default) := getD_map g xs _ .any (by omega)
  simp only [valK, hs, hx, hi, e1]
  exact ⟨⟨by omega, by rw [List.length_map]; omega⟩, hc, h⟩
theorem v_indexAddr_own {te T' : TypeId} {j : Int} (hs : slv P t = some (te, sz, by_)) (hx : e x = .own id) (hi : e y = .sc (.int k j)) (ho : look H id = some (.lst T' sz es)) (hj : 0 ≤ j ∧ j < es.length) (h : K (.ptr id j.toNat 0)) : valK P (.indexAddr t x y) e H K := by
  simp only [valK, hs, hx, hi, ho]
  exact ⟨trivial, hj, h⟩
theorem v_indexAddr_vw {te T' : TypeId} {j : Int} {len cap : Nat} (hs : slv P t = some (te, sz, by_)) (hx : e x = .vw id off len cap) (hi : e y = .sc (.int k j)) (ho : look H id = some (.row T' sz es)) (hj : 0 ≤ j ∧ j < len) (h : K (.ptr id (off + j.toNat) 0)) : valK P (.indexAddr t x y) e H K := by
  simp only [valK, hs, hx, hi, ho]
  exact ⟨trivial, hj, h⟩
theorem v_indexAddr_arr {N : Nat} {j : Int} (hs : slv P t = none) (ha : arv P t = some (N, ag, sz)) (hx : e x = .ptr id i fo) (hi : e y = .sc (.int k j)) (hj : 2 ≤ N ∧ (0 ≤ j ∧ j < N)) (h : K (.ptr id i (fo + j.toNat * sz))) : valK P (.indexAddr t x y) e H K := by
  simp only [valK, hs, ha, hx, hi]
  exact ⟨hj.1, hj.2, h⟩
theorem v_indexAddr_arrP {N : Nat} {j : Int} (hs : slv P t = none) (ha : arv P t = some (N, ag, sz)) (hx : e x = .pt v) (hi : e y = .sc (.int k j)) (hj : 2 ≤ N ∧ 0 < sz ∧ N * sz = v.cells.length ∧ (0 ≤ j ∧ j < N)) (hu : V.fits ag sz (v.sub ag (j.toNat * sz) sz)) (h : K (.pt (v.sub ag (j.toNat * sz) sz))) : valK P (.indexAddr t x y) e H K := by
  simp only [valK, hs, ha, hx, hi]
  exact ⟨hj.1, hj.2.1, hj.2.2.1, hj.2.2.2, hu, h⟩
theorem v_index_arr {N : Nat} {j : Int} {cs : List V} (ha : arv P t = some (N, ag, sz)) (hx : e x = .agg cs) (hi : e y = .sc (.int k j)) (hj : (0 ≤ j ∧ j < N) ∧ 0 < sz ∧ N * sz = cs.length) (h : K ((V.agg cs).sub ag (j.toNat * sz) sz)) : valK P (.index t x y) e H K := by
  simp only [valK, ha, hx, hi]
  exact ⟨hj.1, hj.2.1, hj.2.2, h⟩
theorem v_extract {vs : List V} {m : Nat} (hx : e x = .tup vs) (hm : m < vs.length) (h : K (vs.getD m .any)) : valK P (.extract x m) e H K := by
  simp only [valK, hx]; exact ⟨hm, h⟩
theorem placeF_struct {ps : List (Nat × Nat)} (h : places P t = some ps) : placeF P t = some (fun i => ps[i]?) := by
  unfold placeF
  unfold places at h
  split at h
  · rename_i fs hu
    rw [hu]
    simp only [places, hu, h, Option.map_some]
  · cases h
theorem placeF_arr {N k : Nat} (h : arv P t = some (N, ag, k)) : placeF P t = some (fun i => some (i * k, k)) := by
  obtain ⟨te, h1, h2⟩ := arv_run h
  unfold tyv at h2
  unfold placeF
  rw [h1]
  cases hu : P.underlying te with
  | none => simp [hu] at h2
  | some d =>
    cases hi : P.info? te with
    | none => simp [hu, hi] at h2
    | some i =>
      simp only [hu, hi, Option.some.injEq, Prod.mk.injEq] at h2
      simp only [hi, Option.map_some, h2.2]
theorem v_build {parts : Array (Nat × Operand)} {ps : List (Nat × Nat)} {z cs : List V} (hp : places P t = some ps) (hz : zv P t = some (.agg z)) (hf : fillV (fun i => ps[i]?) z (parts.toList.map fun p => (p.1, e p.2)) = some cs)
    (hok : (parts.toList.all fun p => (e p.2).okCells) = true) (h : K (.agg cs)) : valK P (.build t parts) e H K := by
  simp only [valK, placeF_struct hp, hz, hf]; exact ⟨hok, h⟩
theorem v_build_arr {parts : Array (Nat × Operand)} {N k : Nat} {z cs : List V} (hp : arv P t = some (N, ag, k)) (hz : zv P t = some (.agg z)) (hf : fillV (fun i => some (i * k, k)) z (parts.toList.map fun p => (p.1, e p.2)) = some cs)
    (hok : (parts.toList.all fun p => (e p.2).okCells) = true) (h : K (.agg cs)) : valK P (.build t parts) e H K := by
  simp only [valK, placeF_arr hp, hz, hf]; exact ⟨hok, h⟩
theorem fillV_range {place : Nat → Option (Nat × Nat)} (hpl : ∀ i, place i = some (i, 1)) : ∀ (vs : List V) (j : Nat) (z : List V), z.length = j + vs.length → (∀ v ∈ vs, v.cells.length = 1) → ∀ (ps : List (Nat × V)), ps = (vs.zipIdx j).map (fun p => (p.2, p.1)) →
    fillV place z ps = some (z.take j ++ (vs.map V.cells).flatten)
  | [], j, z, hz, _, ps, hp => by
    subst hp
    simp only [List.length_nil, Nat.add_zero] at hz
    simp [fillV, ← hz]
  | v :: vs, j, z, hz, hv, ps, hp => by
    subst hp
    have h1 := hv v (by simp)
    simp only [List.length_cons] at hz
    simp only [List.zipIdx_cons, List.map_cons, fillV, hpl]
    rw [if_neg (by simp [h1]; omega)]
    have hl : (z.take j ++ v.cells ++ z.drop (j + 1)).length = j + 1 + vs.length := by simp [h1]; omega
    rw [fillV_range hpl vs (j + 1) _ hl (fun u hu => hv u (List.mem_cons_of_mem _ hu)) _ rfl]
    congr 1
    have h2 : (z.take j ++ v.cells).length = j + 1 := by simp [h1]; omega
    rw [List.take_append_of_le_length (by omega), List.take_of_length_le (by omega)]
    simp
theorem v_build_arr1 {parts : Array (Nat × Operand)} {N : Nat} {z : List V} (hp : arv P t = some (N, ag, 1)) (hz : zv P t = some (.agg z)) (hzl : z.length = N) (hidx : parts.toList.map (·.1) = List.range N)
    (hc : (parts.toList.all fun p => decide ((e p.2).cells.length = 1)) = true) (hok : (parts.toList.all fun p => (e p.2).okCells) = true) (h : K (.agg ((parts.toList.map fun p => (e p.2).cells).flatten))) : valK P (.build t parts) e H K := by
  refine v_build_arr hp hz ?_ hok h
  have hlen : parts.toList.length = N := by have := congrArg List.length hidx; simpa using this
  have := fillV_range (place := fun i => some (i * 1, 1)) (fun i => by rw [Nat.mul_one]) (parts.toList.map fun p => e p.2) 0 z (by rw [List.length_map]; omega) (fun v hv => by
    obtain ⟨p, hp', rfl⟩ := List.mem_map.1 hv
    simpa using List.all_eq_true.1 hc p hp') (parts.toList.map fun p => (p.1, e p.2)) (by
      apply List.ext_getElem
      · simp
      · intro i h1 h2
        have hi : i < parts.toList.length := by simpa using h1
        have e1 : (parts.toList[i]).1 = i := by
          have h3 : (parts.toList.map (·.1))[i]'(by simpa using hi) = (List.range N)[i]'(by simp; omega) := by simp only [hidx]
          simpa using h3
        simp
        simpa using e1)
  rw [this]
  simp [List.map_map, Function.comp_def]
theorem v_makeFunc {g : FuncId} {caps : Array Operand} (h : K (.fn g (caps.toList.map e))) : valK P (.makeFunc (.func g) #[] caps) e H K := .inl ⟨rfl, h⟩
theorem v_makeFuncB {g : FuncId} {first : Array Operand} (xs : List Value) (hf : first.toList.map e = xs.map V.sc) (h : K (.sc (.func (.func g) xs.toArray #[]))) : valK P (.makeFunc (.func g) first #[]) e H K := .inr ⟨rfl, xs, hf, h⟩
theorem v_len_sl (hs : (slv P t).isSome = true) (hx : e x = .sl f es) (h : K (.i es.length)) : valK P (.call { callee := .builtin .len, args := #[x], argTypes := #[t] }) e H K := by
  simp only [valK, hx]; exact ⟨hs, h⟩
theorem v_len_map {α : Type} {g : α → V} {xs : List α} (hs : (slv P t).isSome = true) (hx : e x = .sl f (xs.map g)) (h : K (.i xs.length)) : valK P (.call { callee := .builtin .len, args := #[x], argTypes := #[t] }) e H K := by
  simp only [valK, hx, List.length_map]; exact ⟨hs, h⟩
theorem v_len_nil (hs : (slv P t).isSome = true) (hx : e x = V.nilS) (h : K (.i 0)) : valK P (.call { callee := .builtin .len, args := #[x], argTypes := #[t] }) e H K := by
  simp only [valK, hx]; exact ⟨hs, h⟩
theorem v_len_own {T' : TypeId} {s' : Nat} (hs : (slv P t).isSome = true) (hx : e x = .own id) (ho : look H id = some (.lst T' s' es)) (h : K (.i es.length)) : valK P (.call { callee := .builtin .len, args := #[x], argTypes := #[t] }) e H K := by
  simp only [valK, hx, ho]; exact ⟨hs, h⟩
theorem v_len_own_map {α : Type} {g : α → V} {xs : List α} {T' : TypeId} {s' : Nat} (hs : (slv P t).isSome = true) (hx : e x = .own id) (ho : look H id = some (.lst T' s' (xs.map g))) (h : K (.i xs.length)) : valK P (.call { callee := .builtin .len, args := #[x], argTypes := #[t] }) e H K := by
  simp only [valK, hx, ho, List.length_map]; exact ⟨hs, h⟩
theorem v_indexAddr_ownM {α : Type} {g : α → V} {xs : List α} {te T' : TypeId} {j : Int} (hs : slv P t = some (te, sz, by_)) (hx : e x = .own id) (hi : e y = .sc (.int k j)) (ho : look H id = some (.lst T' sz (xs.map g))) (hj : 0 ≤ j ∧ j < xs.length) (h : K (.ptr id j.toNat 0)) : valK P (.indexAddr t x y) e H K := by
  simp only [valK, hs, hx, hi, ho]
  exact ⟨trivial, by rw [List.length_map]; exact hj, h⟩
theorem v_load_ownM {α : Type} [Inhabited α] {g : α → V} {xs : List α} {T' : TypeId} {s' n i : Nat} (ht : tyv P t = some (ag, n)) (hx : e x = .ptr id i fo) (ho : look H id = some (.lst T' s' (xs.map g))) (hi : i < xs.length) (hc : fo + n ≤ (g (xs.getD i default)).cells.length ∧ 0 < n) (h : K ((g (xs.getD i default)).sub ag fo n)) : valK P (.load t x) e H K := by
  have e1 : (xs.map g).getD i .any = g (xs.getD i default) := getD_map g xs i .any hi
  simp only [valK, ht, hx, ho, Obj.len, Obj.elem, List.length_map, e1]
  exact ⟨hi, hc.1, .inl hc.2, h⟩
theorem v_len_vw {len cap : Nat} (hs : (slv P t).isSome = true) (hx : e x = .vw id off len cap) (h : K (.i len)) : valK P (.call { callee := .builtin .len, args := #[x], argTypes := #[t] }) e H K := by
  simp only [valK, hx]; exact ⟨hs, h⟩
theorem v_cap_full (hs : (slv P t).isSome = true) (hx : e x = .sl true es) (h : K (.i es.length)) : valK P (.call { callee := .builtin .cap, args := #[x], argTypes := #[t] }) e H K := by
  simp only [valK, hx]; exact ⟨hs, h⟩
theorem v_cap_nil (hs : (slv P t).isSome = true) (hx : e x = V.nilS) (h : K (.i 0)) : valK P (.call { callee := .builtin .cap, args := #[x], argTypes := #[t] }) e H K := by
  simp only [valK, hx]; exact ⟨hs, h⟩
theorem v_cap_vw {len cap : Nat} (hs : (slv P t).isSome = true) (hx : e x = .vw id off len cap) (h : K (.i cap)) : valK P (.call { callee := .builtin .cap, args := #[x], argTypes := #[t] }) e H K := by
  simp only [valK, hx]; exact ⟨hs, h⟩
theorem v_max {ats : Array TypeId} (hx : e x = .sc (.int k p)) (hy : e y = .sc (.int k' q)) (h : K (.sc (.int k (if p < q then q else p)))) : valK P (.call { callee := .builtin .max, args := #[x, y], argTypes := ats }) e H K := by
  simp only [valK, hx, hy]; exact h
theorem v_min {ats : Array TypeId} (hx : e x = .sc (.int k p)) (hy : e y = .sc (.int k' q)) (h : K (.sc (.int k (if q < p then q else p)))) : valK P (.call { callee := .builtin .min, args := #[x, y], argTypes := ats }) e H K := by
  simp only [valK, hx, hy]; exact h
theorem v_add64 {ty : TypeId} (hx : e x = .sc (.int .i64 p)) (hy : e y = .sc (.int .i64 q)) (hb : -9223372036854775808 ≤ p + q ∧ p + q ≤ 9223372036854775807) (h : K (.i (p + q))) : valK P (.binOp .add t x y ty) e H K := by
  simp only [valK, hx, hy, binK, intK, IntWalk.i64_in _ hb]; exact ⟨trivial, h⟩
theorem v_sub64 {ty : TypeId} (hx : e x = .sc (.int .i64 p)) (hy : e y = .sc (.int .i64 q)) (hb : -9223372036854775808 ≤ p - q ∧ p - q ≤ 9223372036854775807) (h : K (.i (p - q))) : valK P (.binOp .sub t x y ty) e H K := by
  simp only [valK, hx, hy, binK, intK, IntWalk.i64_in _ hb]; exact ⟨trivial, h⟩
theorem v_mul64 {ty : TypeId} (hx : e x = .sc (.int .i64 p)) (hy : e y = .sc (.int .i64 q)) (hb : -9223372036854775808 ≤ p * q ∧ p * q ≤ 9223372036854775807) (h : K (.i (p * q))) : valK P (.binOp .mul t x y ty) e H K := by
  simp only [valK, hx, hy, binK, intK, IntWalk.i64_in _ hb]; exact ⟨trivial, h⟩
theorem v_quo64 {ty : TypeId} (hx : e x = .sc (.int .i64 p)) (hy : e y = .sc (.int .i64 q)) (hb : 0 ≤ p ∧ p ≤ 9223372036854775807 ∧ 1 ≤ q) (h : K (.i (p / q))) : valK P (.binOp .quo t x y ty) e H K := by
  simp only [valK, hx, hy, binK, intK, IntWalk.i64_quo _ _ hb]; exact ⟨trivial, by omega, h⟩
theorem v_quo {ty : TypeId} (hx : e x = .sc (.int k p)) (hy : e y = .sc (.int k q)) (hb : q ≠ 0) (h : K (.sc (.int k (k.wrap (p.tdiv q))))) : valK P (.binOp .quo t x y ty) e H K := by
  simp only [valK, hx, hy, binK, intK]; exact ⟨trivial, hb, h⟩
theorem v_rem64 {ty : TypeId} (hx : e x = .sc (.int k p)) (hy : e y = .sc (.int k q)) (hb : 0 ≤ p ∧ q ≠ 0) (h : K (.sc (.int k (p % q)))) : valK P (.binOp .rem t x y ty) e H K := by
  simp only [valK, hx, hy, binK, intK, Int.tmod_eq_emod_of_nonneg hb.1]; exact ⟨trivial, hb.2, h⟩
theorem v_rem {ty : TypeId} (hx : e x = .sc (.int k p)) (hy : e y = .sc (.int k q)) (hb : q ≠ 0) (h : K (.sc (.int k (p.tmod q)))) : valK P (.binOp .rem t x y ty) e H K := by
  simp only [valK, hx, hy, binK, intK]; exact ⟨trivial, hb, h⟩
theorem v_add {ty : TypeId} (hx : e x = .sc (.int k p)) (hy : e y = .sc (.int k q)) (h : K (.sc (.int k (k.wrap (p + q))))) : valK P (.binOp .add t x y ty) e H K := by
  simp only [valK, hx, hy, binK, intK]; exact ⟨trivial, h⟩
theorem v_sub {ty : TypeId} (hx : e x = .sc (.int k p)) (hy : e y = .sc (.int k q)) (h : K (.sc (.int k (k.wrap (p - q))))) : valK P (.binOp .sub t x y ty) e H K := by
  simp only [valK, hx, hy, binK, intK]; exact ⟨trivial, h⟩
theorem v_mul {ty : TypeId} (hx : e x = .sc (.int k p)) (hy : e y = .sc (.int k q)) (h : K (.sc (.int k (k.wrap (p * q))))) : valK P (.binOp .mul t x y ty) e H K := by
  simp only [valK, hx, hy, binK, intK]; exact ⟨trivial, h⟩
theorem v_shr {ty : TypeId} (hx : e x = .sc (.int k p)) (hy : e y = .sc (.int k' q)) (hb : 0 ≤ q) (h : K (.sc (.int k (p.fdiv (2 ^ (min q.toNat k.bits)))))) : valK P (.binOp .shr t x y ty) e H K := by
  simp only [valK, hx, hy, binK, intK]; exact ⟨hb, h⟩
theorem v_shr1 {ty : TypeId} (hx : e x = .sc (.int .u64 p)) (hy : e y = .sc (.int k' 1)) (h : K (.sc (.int .u64 (p / 2)))) : valK P (.binOp .shr t x y ty) e H K := by
  refine v_shr hx hy (by omega) ?_
  rw [shr1]; exact h
theorem v_shl {ty : TypeId} (hx : e x = .sc (.int k p)) (hy : e y = .sc (.int k' q)) (hb : 0 ≤ q) (h : K (.sc (.int k (k.wrap (p * 2 ^ (min q.toNat k.bits)))))) : valK P (.binOp .shl t x y ty) e H K := by
  simp only [valK, hx, hy, binK, intK]; exact ⟨hb, h⟩
def andZ (k : IntKind) (p q : Int) : Int := k.wrap (BitVec.ofInt k.bits p &&& BitVec.ofInt k.bits q).toNat
def orZ (k : IntKind) (p q : Int) : Int := k.wrap (BitVec.ofInt k.bits p ||| BitVec.ofInt k.bits q).toNat
def xorZ (k : IntKind) (p q : Int) : Int := k.wrap (BitVec.ofInt k.bits p ^^^ BitVec.ofInt k.bits q).toNat
def andNotZ (k : IntKind) (p q : Int) : Int := k.wrap (BitVec.ofInt k.bits p &&& ~~~ BitVec.ofInt k.bits q).toNat
theorem v_and {ty : TypeId} (hx : e x = .sc (.int k p)) (hy : e y = .sc (.int k q)) (h : K (.sc (.int k (andZ k p q)))) : valK P (.binOp .and t x y ty) e H K := by
  simp only [valK, hx, hy, binK, intK]; exact ⟨trivial, h⟩
theorem v_or {ty : TypeId} (hx : e x = .sc (.int k p)) (hy : e y = .sc (.int k q)) (h : K (.sc (.int k (orZ k p q)))) : valK P (.binOp .or t x y ty) e H K := by
  simp only [valK, hx, hy, binK, intK]; exact ⟨trivial, h⟩
theorem v_xor {ty : TypeId} (hx : e x = .sc (.int k p)) (hy : e y = .sc (.int k q)) (h : K (.sc (.int k (xorZ k p q)))) : valK P (.binOp .xor t x y ty) e H K := by
  simp only [valK, hx, hy, binK, intK]; exact ⟨trivial, h⟩
theorem v_andNot {ty : TypeId} (hx : e x = .sc (.int k p)) (hy : e y = .sc (.int k q)) (h : K (.sc (.int k (andNotZ k p q)))) : valK P (.binOp .andNot t x y ty) e H K := by
  simp only [valK, hx, hy, binK, intK]; exact ⟨trivial, h⟩
theorem v_neq {ty : TypeId} (hx : e x = .sc (.int k p)) (hy : e y = .sc (.int k q)) (h : K (.sc (.bool (!decide (p = q))))) : valK P (.binOp .neq t x y ty) e H K := by
  simp only [valK, hx, hy, binK, intK, cmpK]; exact ⟨trivial, h⟩
theorem v_lss {ty : TypeId} (hx : e x = .sc (.int k p)) (hy : e y = .sc (.int k q)) (h : K (.sc (.bool (decide (p < q))))) : valK P (.binOp .lss t x y ty) e H K := by
  simp only [valK, hx, hy, binK, intK, cmpK]; exact ⟨trivial, h⟩
theorem v_leq {ty : TypeId} (hx : e x = .sc (.int k p)) (hy : e y = .sc (.int k q)) (h : K (.sc (.bool (decide (p ≤ q))))) : valK P (.binOp .leq t x y ty) e H K := by
  simp only [valK, hx, hy, binK, intK, cmpK]; exact ⟨trivial, h⟩
theorem v_gtr {ty : TypeId} (hx : e x = .sc (.int k p)) (hy : e y = .sc (.int k q)) (h : K (.sc (.bool (decide (q < p))))) : valK P (.binOp .gtr t x y ty) e H K := by
  simp only [valK, hx, hy, binK, intK, cmpK]; exact ⟨trivial, h⟩
theorem v_geq {ty : TypeId} (hx : e x = .sc (.int k p)) (hy : e y = .sc (.int k q)) (h : K (.sc (.bool (decide (q ≤ p))))) : valK P (.binOp .geq t x y ty) e H K := by
  simp only [valK, hx, hy, binK, intK, cmpK]; exact ⟨trivial, h⟩
theorem v_neqB {ty : TypeId} {A B : Bool} (hu : P.underlying t = some .bool) (hx : e x = .sc (.bool A)) (hy : e y = .sc (.bool B)) (h : K (.sc (.bool (!(A == B))))) : valK P (.binOp .neq t x y ty) e H K := by
  simp only [valK, hx, hy, binK]; exact ⟨hu, h⟩
theorem v_neqA {ty : TypeId} {cs ds zs : List V} (hu : eqlT P t zs) (hx : e x = .agg cs) (hy : e y = .agg ds) (hz : plainCells zs cs = true) (hp : plainCells cs ds = true) (h : K (.sc (.bool (!eqCells cs ds)))) : valK P (.binOp .neq t x y ty) e H K := by
  simp only [valK, hx, hy, binK]; exact ⟨⟨_, hu, hz, hp⟩, h⟩
theorem v_not {A : Bool} (hx : e x = .sc (.bool A)) (h : K (.sc (.bool (!A)))) : valK P (.unOp .not t x) e H K := by
  simp only [valK, hx, unK]; exact h
theorem v_neg64 (hx : e x = .sc (.int .i64 p)) (hb : -9223372036854775807 ≤ p ∧ p ≤ 9223372036854775807) (h : K (.i (-p))) : valK P (.unOp .neg t x) e H K := by
  simp only [valK, hx, unK, Int.zero_sub, IntWalk.i64_in (-p) (by omega)]; exact h
theorem v_conv {ki : IntKind} (hx : e x = .sc (.int k p)) (hs : P.underlying t = some (.int ki)) (hd : P.underlying T = some (.int k')) (h : K (.sc (.int k' (k'.wrap p)))) : valK P (.convert t T x) e H K := by
  simp only [valK, hx, convK, hs, hd]; exact h
theorem v_conv_i64 {ki : IntKind} (hx : e x = .sc (.int k p)) (hs : P.underlying t = some (.int ki)) (hd : P.underlying T = some (.int .i64)) (hb : -9223372036854775808 ≤ p ∧ p ≤ 9223372036854775807) (h : K (.i p)) : valK P (.convert t T x) e H K := by
  simp only [valK, hx, convK, hs, hd, IntWalk.i64_in _ hb]; exact h
theorem v_conv_u64 {ki : IntKind} (hx : e x = .sc (.int k p)) (hs : P.underlying t = some (.int ki)) (hd : P.underlying T = some (.int .u64)) (hb : 0 ≤ p ∧ p ≤ 18446744073709551615) (h : K (.sc (.int .u64 p))) : valK P (.convert t T x) e H K := by
  simp only [valK, hx, convK, hs, hd, IntWalk.u64_in _ hb]; exact h
theorem v_conv_wrap {ki : IntKind} (hx : e x = .sc (.int .i64 (IntKind.i64.wrap p))) (hs : P.underlying t = some (.int ki)) (hd : P.underlying T = some (.int .u64)) (hb : 0 ≤ p ∧ p ≤ 18446744073709551615) (h : K (.sc (.int .u64 p))) : valK P (.convert t T x) e H K := by
  simp only [valK, hx, convK, hs, hd, u64_i64 hb]; exact h
theorem v_slice_cap {te : TypeId} {hi mx : Operand} {k' : IntKind} {l : Int} (hs : slv P t = some (te, sz, by_)) (hx : e x = .sl f es) (hl : e hi = .sc (.int k l)) (hm : e mx = .sc (.int k' l)) (hb : l = es.length) (h : K (.sl true es)) : valK P (.slice t x none (some hi) (some mx)) e H K := by
  subst hb
  simp only [valK, hs, hx, Option.map_none, Option.map_some, hl, hm]
  exact ⟨⟨by omega, trivial, Int.le_refl _⟩, by simpa using h⟩
theorem v_slice_all {te : TypeId} (hs : slv P t = some (te, sz, by_)) (hx : e x = .sl f es) (h : K (.sl f es)) : valK P (.slice t x none none none) e H K := by
  simp only [valK, hs, hx, Option.map_none]; exact h
theorem v_slice_lo {te : TypeId} {lo : Operand} {l : Int} (hs : slv P t = some (te, sz, by_)) (hx : e x = .sl f es) (hl : e lo = .sc (.int k l)) (hb : (0 ≤ l ∧ l ≤ es.length) ∧ Stride sz es) (h : K (.sl f (es.drop l.toNat))) : valK P (.slice t x (some lo) none none) e H K := by
  simp only [valK, hs, hx, Option.map_none, Option.map_some, hl]; exact ⟨hb.1, hb.2, h⟩
theorem v_slice_ownlo {te T' : TypeId} {s' : Nat} {lo : Operand} {l : Int} (hs : slv P t = some (te, sz, by_)) (hx : e x = .own id) (ho : look H id = some (.lst T' s' es)) (hl : e lo = .sc (.int k l)) (hb : 0 ≤ l ∧ l ≤ es.length) (h : K .junk) : valK P (.slice t x (some lo) none none) e H K := by
  simp only [valK, hs, hx, ho, Option.map_none, Option.map_some, hl]; exact ⟨hb, h⟩
theorem v_slice_hi {te : TypeId} {hi : Operand} {l : Int} (hs : slv P t = some (te, sz, by_)) (hx : e x = .sl f es) (hl : e hi = .sc (.int k l)) (hb : 0 ≤ l ∧ l ≤ es.length) (h : K (.sl false (es.take l.toNat))) : valK P (.slice t x none (some hi) none) e H K := by
  simp only [valK, hs, hx, Option.map_none, Option.map_some, hl]; exact ⟨hb, h⟩
theorem v_slice_lohi {te : TypeId} {lo hi : Operand} {l m : Int} (hs : slv P t = some (te, sz, by_)) (hx : e x = .sl f es) (hl : e lo = .sc (.int k l)) (hh : e hi = .sc (.int k' m)) (hb : (0 ≤ l ∧ l ≤ m ∧ m ≤ es.length) ∧ Stride sz es) (h : K (.sl false ((es.take m.toNat).drop l.toNat))) : valK P (.slice t x (some lo) (some hi) none) e H K := by
  simp only [valK, hs, hx, Option.map_none, Option.map_some, hl, hh]; exact ⟨hb.1, hb.2, h⟩
end
theorem gd_z (x : V) (xs : List V) (d : V) : (x :: xs).getD 0 d = x := rfl
theorem gd_s (x : V) (xs : List V) (n : Nat) (d : V) : (x :: xs).getD (n + 1) d = xs.getD n d := rfl
theorem sp_agg (ds : List V) (fo : Nat) (cs : List V) : splice (.agg ds) fo cs = .agg (ds.take fo ++ cs ++ ds.drop (fo + cs.length)) := rfl
theorem sp_sc (x : Value) (fo : Nat) (cs : List V) : splice (.sc x) fo cs = cs.headD .any := rfl
theorem sp_sl (f : Bool) (es : List V) (fo : Nat) (cs : List V) : splice (.sl f es) fo cs = cs.headD .any := rfl
theorem sp_own (id : Nat) (fo : Nat) (cs : List V) : splice (.own id) fo cs = cs.headD .any := rfl
theorem sp_junk (fo : Nat) (cs : List V) : splice .junk fo cs = cs.headD .any := rfl
theorem sub_f (v : V) (fo n : Nat) : V.sub false fo n v = v.cells.getD fo .any := rfl
theorem sub_t (v : V) (fo n : Nat) : V.sub true fo n v = .agg ((v.cells.drop fo).take n) := rfl
attribute [go_sem] sp_agg sp_sc sp_sl sp_own sp_junk gd_z gd_s St.put List.set_cons_zero List.set_cons_succ ev sub_f sub_t V.cells_agg V.cells_sc V.cells_any V.cells_junk V.cells_sl V.cells_pt V.cells_fn V.cells_own V.cells_ptr V.cells_vw V.cells_mp
  List.drop_zero List.drop_succ_cons List.take_succ_cons List.take_zero List.headD_cons Obj.elem Obj.wr List.map_cons List.map_nil List.cons_append List.nil_append upd_nil upd_cons V.killL V.kill AM.updK Obj.kill
  List.flatten_cons List.flatten_nil List.length_cons List.length_nil V.dataL V.data Storable_nil Storable_cons Stride_nil Stride_cons V.okCells V.one Value.oneCell' List.all_cons List.all_nil
end Go.AM
namespace Go.AM
open V (Le LeL)
theorem V.LeL1 {a a' : V} (h : Le a a') : LeL [a] [a'] := .cons h .nil
theorem V.LeL2 {a a' b b' : V} (h : Le a a') (k : Le b b') : LeL [a, b] [a', b'] := .cons h (LeL1 k)
theorem V.LeL3 {a a' b b' c c' : V} (h : Le a a') (k : Le b b') (l : Le c c') : LeL [a, b, c] [a', b', c'] := .cons h (LeL2 k l)
theorem V.LeL4 {a a' b b' c c' d d' : V} (h : Le a a') (k : Le b b') (l : Le c c') (m : Le d d') : LeL [a, b, c, d] [a', b', c', d'] := .cons h (LeL3 k l m)
theorem V.LeL5 {a a' b b' c c' d d' e e' : V} (h : Le a a') (k : Le b b') (l : Le c c') (m : Le d d') (n : Le e e') : LeL [a, b, c, d, e] [a', b', c', d', e'] := .cons h (LeL4 k l m n)
theorem Spec.mono {P : Program} {f : FuncId} {args : List V} {H : Heap} {post post' : V → Heap → Prop} (h : Spec P f args H post) (hp : ∀ r H', post r H' → post' r H') : Spec P f args H post' := by
  intro w O xs loc S
  refine (h w O xs loc S).mono ?_
  rintro e w' ⟨r, H', x, loc', h1, h2, h3⟩
  exact ⟨r, H', x, loc', hp _ _ h1, h2, h3⟩
theorem Spec.le {P : Program} {f : FuncId} {args : List V} {H : Heap} {post post' : V → Heap → Prop} (h : Spec P f args H post)
    (hp : ∀ r H', post r H' → ∃ r' H'', post' r' H'' ∧ (⟨[r], H'⟩ : St).Le ⟨[r'], H''⟩) : Spec P f args H post' := by
  intro w O xs loc S
  refine (h w O xs loc S).mono ?_
  rintro e w' ⟨r, H', x, loc', h1, h2, h3⟩
  obtain ⟨r', H'', k1, k2⟩ := hp _ _ h1
  obtain ⟨loc'', k3⟩ := k2 w O _ loc' _ w' h3
  exact ⟨r', H'', x, loc'', k1, h2, k3⟩
theorem Fn.of_own {P : Program} {f : FuncId} {args : List V} {t : TypeId} {sz : Nat} {es : List V} (h : Spec P f args [] (OwnPost t sz fun l => l = es)) : Fn P f args (.sl false es) := by
  refine h.le ?_
  rintro r H' ⟨l, rfl, rfl, rfl⟩
  refine ⟨_, _, ⟨rfl, rfl⟩, ?_⟩
  have := St.Le.freeze_lst (s := ⟨[.own 0], [(0, .lst t sz l)]⟩) 0 (look_eq 0 _ _)
  simpa [V.frzL, V.frz, frzH] using this
theorem Spec.args {P : Program} {f : FuncId} {args args' : List V} {post : V → Heap → Prop} (h : Spec P f args' [] post) (hle : LeL args args') (hd : V.dataL args' = true) : Spec P f args [] post := by
  intro w O xs loc S
  have S' : SimAt w O (Owned [] loc) [] loc args' xs w := S.clean hle (V.usesL_data _ _ hd) trivial
  exact h w O xs loc S'
theorem Fn.weaken {P : Program} {f : FuncId} {args : List V} {r r' : V} (h : Fn P f args r) (hle : Le r r') (hd : r'.data = true) : Fn P f args r' := by
  refine Spec.le h ?_
  rintro x H' ⟨rfl, rfl⟩
  exact ⟨r', [], ⟨rfl, rfl⟩, St.Le.clean (.cons hle .nil) (by simp [V.usesL, V.uses_data _ _ hd]) trivial⟩
section
variable {P : Program} {f : FuncId} {k : List Item} {s : St}
theorem Runs.ret_frz {fn : Func} {es' : List V} (hf : P.funcs[f]? = some fn) {j : Tmp} (hr : fn.results = #[.tmp j]) {d : Nat} (hs : s.slots.getD j .any = .own d) {t : TypeId} {sz : Nat} {es : List V} (hl : look s.heap d = some (.lst t sz es)) (he : es = es') :
    Runs P f (fun r' H' => r' = .sl false es' ∧ H' = []) (.code .ret :: k) s := by
  refine Runs.fact (F := V.dataL es = true) (fun w0 O M loc xs w S => (S.objs d _ hl).1.2) fun hd => ?_
  refine Runs.weaken (St.Le.freeze_lst d hl) (Runs.ret_fn hf ?_)
  rw [hr]
  subst he
  show Le ((V.frzL d (.sl false es) .junk s.slots).getD j .any) _ ∧ _
  rw [V.frzL_getD, hs]
  refine ⟨?_, by simpa [V.data] using hd⟩
  simp only [V.frz, if_true]
  exact .refl _
theorem Runs.ret_nil {fn : Func} (hf : P.funcs[f]? = some fn) {j : Tmp} (hr : fn.results = #[.tmp j]) (hs : s.slots.getD j .any = V.nilS) {t : TypeId} {sz : Nat} (hz : 0 < sz) {Q : List V → Prop} (hq : Q []) (hh : s.heap = []) :
    Runs P f (OwnPost t sz Q) (.code .ret :: k) s := by
  have hl : j < s.slots.length := by
    rcases Nat.lt_or_ge j s.slots.length with h | h
    · exact h
    · rw [List.getD_eq_getElem?_getD, List.getElem?_eq_none h] at hs; cases hs
  refine Runs.weaken (St.Le.nil 0 t sz j hz (by rw [hh]; rfl) hs hl) ?_
  refine Runs.ret_own hf hr (d := 0) (t := t) (sz := sz) (es := []) ?_ (look_eq 0 _ _) hq
  show (s.slots.set j (.own 0)).getD j .any = .own 0
  simp [List.getD_eq_getElem?_getD, hl]
end
end Go.AM
