/- From a law's contract to its row. -/
import Derived.Test.YtmhnmookgbmmbaaGreatRows
import Derived.ProofKit
import Derived.SizedLaws
import Derived.Test.YtmhnmookgbmmbaaGreatHd
set_option linter.unusedVariables false
set_option linter.unusedSimpArgs false
set_option maxRecDepth 8000
set_option maxHeartbeats 1000000
namespace Go.Proofs
open Go.AM Go.ChangeShapes Go.WideShapes Go.ChangeAt Go.RowKit Go.WideElems
theorem row_own : ownKnob Tryz.prog.godebug = none := by kernel_rfl
theorem row_laid : laidOutB Tryz.prog = true := by kernel_rfl
theorem row_u22 : Tryz.prog.underlying 44 = some (.slice 3) := by kernel_rfl
theorem row_u3 : Tryz.prog.underlying 3 = some (.int .i64) := by kernel_rfl
theorem row_u4 : Tryz.prog.underlying 4 = some .bool := by kernel_rfl
theorem row_b3 : Tryz.prog.bytesOf 3 = 8 := by kernel_rfl
theorem row_c3 : Tryz.prog.cellsOf 3 = 1 := by kernel_rfl
section
variable {H : Type} {enc : TypeId × Value → H}
theorem row_ints {W : World} {base : Nat} : ∀ {n : Nat} {vs : List Value} {ds : List (DataW H)} {ps : List MemPlace}, DataW.TrodAll enc Tryz.prog W 0 (fun _ => true) true (List.replicate n 3) vs ds ps →
    (∀ j v, j < n → vs[j]? = some v → Value.okWide Tryz.prog W .any base 3 v) →
    ∃ zs : List Int, zs.length = n ∧ vs = zs.map (Value.int .i64) ∧ ps = [] ∧ ds.length = n ∧ ∀ (W' : World) (b : Nat) (sp : Nat → Bool) (hd : Bool), DataW.TrodAll enc Tryz.prog W' b sp hd (List.replicate n 3) vs ds []
  | 0, vs, ds, ps, h, _ => by
    obtain ⟨rfl, rfl, rfl⟩ := trodAll_nil h
    exact ⟨[], rfl, rfl, rfl, rfl, fun _ _ _ _ => rfl⟩
  | n + 1, vs, ds, ps, h, hv => by
    rw [List.replicate_succ] at h
    obtain ⟨v, vs', d, ds', p, q, rfl, rfl, rfl, hd, hrest⟩ := trodAll_cons h
    obtain ⟨z, rfl, rfl, rfl, wz⟩ := open_int row_u3 (hv 0 v zo rfl) hd
    obtain ⟨zs, h1, rfl, rfl, h3, h4⟩ := row_ints hrest fun j v hj he => hv (j + 1) v zo he
    refine ⟨z :: zs, by simp [h1], rfl, rfl, by simp [h3], fun W' b sp hd => ?_⟩
    rw [List.replicate_succ]
    exact ⟨[], [], shut_int row_u3 wz, h4 W' b sp hd, rfl⟩
theorem row_law {n : Nat} {f : FuncId} {F : Func} {s : ChangeSpec} (hp : F.params.toList = 44 :: List.replicate n 3) (hr : F.resultTypes = #[4]) (hv : s.vars = [])
    (hs : ∀ ds : List (DataW H), ds.length = n + 1 → (s.fn H ds).results = [.lit (.bool true)] ∧ (s.fn H ds).args = ds ∧ (s.fn H ds).vars = [])
    (law : ∀ (b : Bool) (l zs : List Int), l.length ≤ 4611686018427387904 → zs.length = n → AM.Fn Tryz.prog f (.sl b (l.map .i) :: zs.map .i) (.b true))
    {fresh handsOn : Bool} (W : World) (base : Nat) (args : Array Value) (ds gs : List (DataW H)) (before : List MemPlace)
    (hval : ∀ (j : Nat) t v, F.params[j]? = some t → args[j]? = some v → Value.okWide Tryz.prog W .any base t v)
    (hW : DataW.Whole enc Tryz.prog F.params.toList s.vars false W args.toList ds gs before)
    (hsz : (DataW.weightsEach Tryz.prog (F.params.toList ++ s.plain.varTypes Tryz.prog) (ds ++ gs)).all (· ≤ reachBytes) = true) :
    Calls Tryz.prog f args W fun e W' => ∃ v, e = .returned v ∧ s.post enc Tryz.prog F false fresh handsOn false W args v W' := by
  have hW' := hW
  obtain ⟨p, q, hA, hV, rfl, hfz, hnd⟩ := hW
  rw [hv] at hV
  obtain ⟨rfl, rfl⟩ := trodVars_none hV
  rw [hp] at hA
  obtain ⟨v0, vs, d0, ds', p0, q0, ha, rfl, rfl, h0, hrest⟩ := trodAll_cons hA
  have hval0 := hval 0 44 v0 (by rw [← Array.getElem?_toList, hp]; rfl) (by rw [← Array.getElem?_toList, ha]; rfl)
  obtain ⟨zs, hz, rfl, rfl, hdl, hints⟩ := row_ints (base := base) hrest fun j v hj he => hval (j + 1) 3 v (by rw [← Array.getElem?_toList, hp]; simp [hj]) (by rw [← Array.getElem?_toList, ha]; simpa using he)
  obtain ⟨a0, len, cap, rfl⟩ := okWide_slice row_u22 hval0
  have hlt : ∀ x ∈ p0, x.block < W.heap.size := fun x hx => by simpa using hW'.lt x (by simpa using hx)
  -- what the slice reads as
  have hsl : ∃ l : List Int, l.length ≤ 4611686018427387904 ∧ AM.Rel (env W (fun _ => False) [] fun _ => undef) (.slice a0 len cap) (.sl false (l.map .i)) := by
    obtain ⟨fuel, hf⟩ := h0
    rcases open_ints row_u22 row_u3 row_c3 hf with ⟨hcs, hx⟩ | ⟨a, len', cap', xs, hcs, _, hl, hm, hxl, hx, hcell, hwz⟩
    · simp [Value.cells] at hcs
      obtain ⟨rfl, rfl, rfl⟩ := hcs
      exact ⟨[], by simp, .nil false none 0 (fun e => by cases e) zd⟩
    · simp [Value.cells] at hcs
      obtain ⟨rfl, rfl, rfl⟩ := hcs
      simp only [Prod.mk.injEq] at hx
      obtain ⟨rfl, rfl⟩ := hx
      simp only [if_true] at hxl
      have hmx : cap ≤ 4611686018427387904 := by
        have h8 := sized_slice (j := 0) hsz (by rw [hp]; rfl) rfl row_u22
        rw [row_b3] at h8
        simp only [lits, List.length_map, List.length_take, List.length_drop] at h8
        have : reachBytes = 140737488351232 := rfl
        omega
      rcases Nat.eq_zero_or_pos len with h00 | hpos
      · subst h00
        exact ⟨[], by simp, .nil false _ cap (fun e => by cases e) hm⟩
      · obtain ⟨b, off, spot⟩ := a
        have hspot : spot = none := by simpa [Addr.add] using World.cell?_spot (hcell 0 zo)
        subst hspot
        have hb : b < W.heap.size := hlt (.cell b off) (MemPlace.mem_row.2 ⟨0, by omega, by simp⟩)
        have hlen : (xs.take len).length = len := by rw [List.length_take]; omega
        refine ⟨xs.take len, by omega, ?_⟩
        have key := AM.Rel.sl (E := env W (fun _ => False) [] fun _ => undef) false ((xs.take len).map .i) b off cap 1 (fun k => .int .i64 (xs.getD k 0)) (dl_i _) (by rw [List.length_map]; omega) hm (fun e => by cases e)
          ⟨hb, fun h => h, fun id h => by simp [AM.look] at h⟩ zd ?_ ?_ ?_
        · rw [List.length_map, hlen] at key; exact key
        · intro i hi
          rw [List.length_map] at hi
          rw [AM.getD_map V.i _ i .any hi]; rfl
        · intro k hk
          rw [List.length_map, hlen] at hk
          have := hcell k zo
          rw [add_plain] at this
          exact this
        · intro i j hi hj
          rw [List.length_map] at hi
          obtain rfl : j = 0 := by omega
          rw [AM.getD_map V.i _ i .any hi]
          have e : (xs.take len).getD i default = xs.getD i 0 := by
            rw [hlen] at hi
            rw [List.getD_eq_getElem?_getD, List.getD_eq_getElem?_getD, List.getElem?_take_of_lt hi]; rfl
          rw [e, Nat.mul_one, Nat.add_zero]
          exact .sc _
  obtain ⟨l, hl, hrel⟩ := hsl
  have hzs : ∀ zs : List Int, AM.RelL (env W (fun _ => False) [] fun _ => undef) (zs.map (Value.int .i64)) (zs.map .i) := by
    intro zs
    induction zs with
    | nil => exact AM.RelL.nil _
    | cons z zs ih => exact AM.RelL.cons (.sc _) ih
  have S : SimAt W (fun _ => False) (Owned [] fun _ => undef) [] (fun _ => undef) (.sl false (l.map .i) :: zs.map .i) (Value.slice a0 len cap :: zs.map (Value.int .i64)) W :=
    ⟨AM.RelL.cons hrel (hzs zs), fun id o h => by simp [AM.look] at h, fun id id' b h => by simp [AM.look] at h, fun id b h => by simp [AM.look] at h, Ext.refl W _, fun b h => h.elim⟩
  have hc := law false l zs hl hz W (fun _ => False) _ (fun _ => undef) S
  rw [← ha] at hc
  rw [show args.toList.toArray = args from Array.toArray_toList] at hc
  refine hc.mono ?_
  rintro e W' ⟨r, H', x, loc', ⟨rfl, rfl⟩, rfl, S'⟩
  have hx : x = .bool true := by
    have := S'.vals.2 0 (by simp)
    simp only [List.getD_cons_zero] at this
    cases this; rfl
  subst hx
  have hbel : Below W.heap.size W W' := ⟨S'.ext.os, S'.ext.tape, S'.ext.output, S'.ext.size, fun k hk => S'.ext.block k hk fun ⟨id, h, _⟩ => by simp [AM.look] at h⟩
  obtain ⟨e1, e2, e3⟩ := hs (d0 :: ds') (by simp [hdl])
  refine ⟨_, rfl, _, _, _, [], p0, [], hW', ?_, ?_, ?_, hbel.frame _, fun h => by cases h⟩
  · rw [List.append_nil, e1, hr]
    exact trodAll_mk1 (shut_bool row_u4 true)
  · rw [List.append_nil, e2, hp, ha]
    have t1 := Trod_stays row_laid (by kernel_rfl) (of_decide_eq_true (by kernel_rfl)) h0 (fun x hx => hbel.same (hlt x hx)) (sp' := fun b => decide (b < W.heap.size)) (fun x hx => by simpa using hlt x hx)
    exact ⟨p0, [], t1, hints W' 0 (fun b => decide (b < W.heap.size)) true, by simp⟩
  · rw [hv, List.append_nil, e3]; rfl
end
end Go.Proofs
