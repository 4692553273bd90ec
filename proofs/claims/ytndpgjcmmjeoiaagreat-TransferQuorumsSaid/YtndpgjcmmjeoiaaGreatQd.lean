/- Package quorum: grid, by the kit's laws of a range over a function. -/
import Derived.RangeFuncNested
import Derived.RangeFuncBound
import Derived.RangeFuncCalls
import Derived.RangeFuncLeaves
import Derived.RangeFuncBox
import Derived.Shelf.Abstract
import Derived.Shelf.RegionOpen
import Derived.WalkKit
import Derived.OwnWalkIn
import Derived.TacticsInMore
import Derived.LoopNIn
import Derived.LoopIn
import Derived.RegionIn
import Derived.Test.YtndpgjcmmjeoiaaGreatQc
set_option linter.unusedVariables false
set_option linter.unusedSimpArgs false
namespace Go.Proofs
open Go.RowKit Go.Shelf
attribute [local go_sem] Oper.semAt_some
def CountsB : Prop := ∀ (w : World) (g o : Nat) (l : List Bool), l.length ≤ 1000000 → g < w.heap.size → (∀ j, j < l.length → w.cell? ⟨g, o + j, none⟩ = some (.bool (l.getD j false))) →
  Calls Tryz.prog 213 #[.slice (some ⟨g, o, none⟩) l.length l.length] w fun e w' => e = .returned (.int .i64 (cntB l : Nat)) ∧ Below w.heap.size w w'
set_option maxRecDepth 100000 in
set_option maxHeartbeats 4000000 in
theorem grid_calls (hcnt : CountsB) (c : Nat) (hc : 1 ≤ c ∧ c ≤ 1000000) (bs : List Bool) (hl : bs.length ≤ 1000000) (w : World) (g off cap : Nat) (hcap : bs.length ≤ cap) (hcm : cap ≤ 9223372036854775807) (hg : g < w.heap.size)
    (hread : ∀ j, j < bs.length → w.cell? ⟨g, off + j, none⟩ = some (.bool (bs.getD j false))) :
    Calls Tryz.prog 215 #[.int .i64 c, .slice (some ⟨g, off, none⟩) bs.length cap] w fun e W' => e = .returned (.bool (gridB c bs)) ∧ Below w.heap.size w W' := by
  have hmx : Tryz.prog.follows .mixedOrders = true := by kernel_rfl
  refine (callsIn_wide (n := 3)).1 ?_
  refine callsIn_of_wp_marks Tryz.func215 rfl trivial ?_ rfl
  simp only [Tryz.ntmps215, List.size_toArray, List.length_cons, List.length_nil, Nat.reduceAdd, Nat.reduceSub, Array.replicate_succ, Array.replicate_zero, List.push_toArray, List.append_toArray, List.nil_append, List.cons_append]
  have hc1 : ¬ ((c : Int) < 1) := by omega
  gi_wp2_with (gi_at_call 241; refine (chunk_in Fence.wide 2 trivial rfl _ _ _ c (by omega) _).mono ?_; rintro e w' ⟨rfl, rfl⟩)
  refine ⟨trivial, (chunk_in Fence.wide 2 trivial rfl _ _ _ c (by omega) _).mono ?_⟩
  rintro e w' ⟨rfl, rfl⟩
  obtain ⟨W0, hW0⟩ : ∃ W0, (((w.alloc (.cells #[.bool false] 4)).alloc (.cells #[.bool false] 4)).alloc (.cells #[.slice (some ⟨g, off, none⟩) bs.length cap] 209)).alloc (.cells #[.int .i64 c] 3) = W0 := ⟨_, rfl⟩
  have bR := Boxed.new w 4 (.bool false)
  have bW := Boxed.new (w.alloc (.cells #[.bool false] 4)) 4 (.bool false)
  have bS := Boxed.new ((w.alloc (.cells #[.bool false] 4)).alloc (.cells #[.bool false] 4)) 209 (.slice (some ⟨g, off, none⟩) bs.length cap)
  have bN := Boxed.new (((w.alloc (.cells #[.bool false] 4)).alloc (.cells #[.bool false] 4)).alloc (.cells #[.slice (some ⟨g, off, none⟩) bs.length cap] 209)) 3 (.int .i64 c)
  have xR := ((bR.alloc (.cells #[.bool false] 4)).alloc (.cells #[.slice (some ⟨g, off, none⟩) bs.length cap] 209)).alloc (.cells #[.int .i64 c] 3)
  have xW := (bW.alloc (.cells #[.slice (some ⟨g, off, none⟩) bs.length cap] 209)).alloc (.cells #[.int .i64 c] 3)
  have xS := bS.alloc (.cells #[.int .i64 c] 3)
  have hB0 : Below w.heap.size w W0 := by
    rw [← hW0]
    exact ((((Below.refl _ w).alloc (Nat.le_refl _) _).alloc (by simp) _).alloc (by simp; omega) _).alloc (by simp; omega) _
  have hsz : W0.heap.size = w.heap.size + 4 := by rw [← hW0]; simp
  simp only [World.size_alloc, Nat.add_assoc, Nat.reduceAdd] at bS bN xR xW xS
  simp only [World.size_alloc, Nat.add_assoc, Nat.reduceAdd]
  rw [hW0] at bN xR xW xS ⊢
  gi_wp2
  refine wpIn_rangeFunc_ownG rfl (by decide) (gf := 270) (lb := #[.pointer (some ⟨w.heap.size + 2, 0, none⟩), .pointer (some ⟨w.heap.size + 3, 0, none⟩)]) rfl trivial (enters_of Tryz.func270 (by kernel_rfl) rfl)
    (chunk_stops Fence.wide 2 trivial rfl (by decide) w.heap.size (w.heap.size + 2) (w.heap.size + 3) g off bs.length cap c hl hc hcap hcm W0 (by omega) (by omega) xS.cell bN.cell)
    KpG.trans (fun W l o o' hl ho h1 h2 => KpG.put W l o o' (by omega) ho h1 h2) (Below.refl _ _) (fun _ => rfl)
    (fun pre W => (((∀ k ∈ pre, someB c bs k = true) ∧ W.cell? ⟨w.heap.size, 0, none⟩ = some (.bool false) ∧ W.frozen? ⟨w.heap.size, 0, none⟩ = false) ∧ W.cell? ⟨w.heap.size + 1, 0, none⟩ = some (.bool (pre.any (fullB c bs))) ∧ W.frozen? ⟨w.heap.size + 1, 0, none⟩ = false) ∧ Below w.heap.size w W)
    (fun cd pre W => (cd = .ret ∧ ∃ ini last, pre = ini ++ [last] ∧ someB c bs last = false ∧ W.cell? ⟨w.heap.size, 0, none⟩ = some (.bool false)) ∧ Below w.heap.size w W)
    (OwnFrom.and (Own.from (fun s A B row hs hg hr => ⟨⟨hs.1.1, cell_kept hs.1.2.1 hg hr, (frozen_kept hs.1.2.1 hg hr).trans hs.1.2.2⟩, cell_kept hs.2.1 hg hr, (frozen_kept hs.2.1 hg hr).trans hs.2.2⟩) _) (ownFrom_below (Nat.le_refl _) (by omega)))
    (fun cd => OwnFrom.and (Own.from (fun s A B row hs hg hr => by obtain ⟨hc, ini, last, e1, e2, e3⟩ := hs; exact ⟨hc, ini, last, e1, e2, cell_kept e3 hg hr⟩) _) (ownFrom_below (Nat.le_refl _) (by omega)))
    ⟨⟨⟨by simp, xR.cell, xR.frozen⟩, xW.cell, xW.frozen⟩, hB0⟩
    (fun x => { tmps := #[.int .i64 c, .slice (some ⟨g, off, none⟩) bs.length cap, undef, undef, .pointer (some ⟨w.heap.size, 0, none⟩), .pointer (some ⟨w.heap.size + 1, 0, none⟩), Value.slice (some ⟨g, off + x * c, none⟩) (min c (bs.length - x * c)) (min c (bs.length - x * c)), undef, .int .i64 c, .bool false, .slice (some ⟨g, off, none⟩) bs.length cap, .int .i64 c, .func (.func 270) #[] #[.pointer (some ⟨w.heap.size + 2, 0, none⟩), .pointer (some ⟨w.heap.size + 3, 0, none⟩)], Value.slice (some ⟨g, off + x * c, none⟩) (min c (bs.length - x * c)) (min c (bs.length - x * c)), undef, undef, undef, undef, undef, undef, undef, undef, undef, undef, undef, undef], defers := [] }) ?assign ?body ?done ?stop
  case assign =>
    intro l x W K hK
    gi_wp2
    exact hK
  case body =>
    rintro l pre x W ⟨⟨⟨hp, hcr, hfr⟩, hcw, hfw⟩, hB⟩ _
    have hd : 1 ≤ 3 - 1 - 1 := by decide
    have hlen := gRow_len c bs x
    have hcx := hcnt W g (off + x * c) (gRow c bs x) (by rw [hlen]; omega) (by have := hB.size; omega) (fun j hj => by
      rw [hlen] at hj
      rw [hB.cell (p := ⟨g, off + x * c + j, none⟩) hg, Nat.add_assoc]
      rw [hread (x * c + j) (by omega)]
      unfold gRow
      rw [List.getD_eq_getElem?_getD, List.getD_eq_getElem?_getD, List.getElem?_take_of_lt (by omega), List.getElem?_drop])
    rw [hlen] at hcx
    have l0 := World.block_lt_of_cell? W _ hcr
    have l1 := World.block_lt_of_cell? W _ hcw
    dsimp only at l0 l1
    gi_wp2
    refine ⟨trivial, (CallsIn.inRound l (callsIn_wide.2 hcx)).mono ?_⟩
    rintro e W1 ⟨rfl, hb1⟩
    have hcr1 := (hb1.cell (p := ⟨w.heap.size, 0, none⟩) l0).trans hcr
    have hfr1 := (hb1.frozen (p := ⟨w.heap.size, 0, none⟩) l0).trans hfr
    have hcw1 := (hb1.cell (p := ⟨w.heap.size + 1, 0, none⟩) l1).trans hcw
    have hfw1 := (hb1.frozen (p := ⟨w.heap.size + 1, 0, none⟩) l1).trans hfw
    have hkf : KeepsFrom W0.heap.size W W1 := KeepsOthers.from ⟨hb1.size, fun k o hk _ => (hb1.block k (Array.getElem?_eq_some_iff.1 hk).1).trans hk⟩ _
    have hbw : Below w.heap.size W W1 := hb1.mono (by have := hB.size; omega)
    have hkp : KpG w.heap.size (w.heap.size + 2) (w.heap.size + 3) W W1 := ⟨hbw, fun v hv => (hb1.cell (p := ⟨w.heap.size + 2, 0, none⟩) (World.block_lt_of_cell? W _ hv)).trans hv, fun v hv => (hb1.cell (p := ⟨w.heap.size + 3, 0, none⟩) (World.block_lt_of_cell? W _ hv)).trans hv⟩
    have hkp2 : ∀ v, KpG w.heap.size (w.heap.size + 2) (w.heap.size + 3) W1 (W1.setCell ⟨w.heap.size + 1, 0, none⟩ v) := fun v => ⟨(Below.refl w.heap.size W1).setCell (p := ⟨w.heap.size + 1, 0, none⟩) (by simp) _, fun u hu => (World.cell?_setCell_other _ _ _ _ (by simp)).trans hu, fun u hu => (World.cell?_setCell_other _ _ _ _ (by simp)).trans hu⟩
    by_cases h0 : cntB (gRow c bs x) = 0
    · have hs : someB c bs x = false := by unfold someB; simp [h0]
      have h0' : ((cntB (gRow c bs x) : Nat) : Int) = 0 := by omega
      gi_wp2
      exact ⟨hkf.trans ((KeepsOthers.setCell _ _ _).from _), ⟨rfl, pre, x, rfl, hs, World.cell?_setCell_same' _ _ _ (by rw [hcr1]; rfl)⟩, (hB.trans hbw).setCell (p := ⟨w.heap.size, 0, none⟩) (Nat.le_refl _) _⟩
    · have hs : someB c bs x = true := by unfold someB; simp [h0]
      have h0' : ¬ ((cntB (gRow c bs x) : Nat) : Int) = 0 := by omega
      have hany : (pre ++ [x]).any (fullB c bs) = (pre.any (fullB c bs) || fullB c bs x) := by simp
      have hfull : fullB c bs x = decide (cntB (gRow c bs x) = min c (bs.length - x * c)) := by unfold fullB; rw [hlen]
      have hp2 : ∀ k ∈ pre ++ [x], someB c bs k = true := fun k hk => (List.mem_append.1 hk).elim (hp k) (fun e => by rw [List.mem_singleton.1 e]; exact hs)
      have fin : ∀ b, b = (pre ++ [x]).any (fullB c bs) → KeepsFrom W0.heap.size W (W1.setCell ⟨w.heap.size + 1, 0, none⟩ (.bool b)) ∧ KpG w.heap.size (w.heap.size + 2) (w.heap.size + 3) W (W1.setCell ⟨w.heap.size + 1, 0, none⟩ (.bool b)) ∧
          (((∀ k ∈ pre ++ [x], someB c bs k = true) ∧ (W1.setCell ⟨w.heap.size + 1, 0, none⟩ (.bool b)).cell? ⟨w.heap.size, 0, none⟩ = some (.bool false) ∧ (W1.setCell ⟨w.heap.size + 1, 0, none⟩ (.bool b)).frozen? ⟨w.heap.size, 0, none⟩ = false) ∧
            (W1.setCell ⟨w.heap.size + 1, 0, none⟩ (.bool b)).cell? ⟨w.heap.size + 1, 0, none⟩ = some (.bool ((pre ++ [x]).any (fullB c bs))) ∧ (W1.setCell ⟨w.heap.size + 1, 0, none⟩ (.bool b)).frozen? ⟨w.heap.size + 1, 0, none⟩ = false) ∧ Below w.heap.size w (W1.setCell ⟨w.heap.size + 1, 0, none⟩ (.bool b)) := fun b hb =>
        ⟨hkf.trans ((KeepsOthers.setCell _ _ _).from _), hkp.trans (hkp2 _), ⟨⟨hp2, (World.cell?_setCell_other _ _ _ _ (by simp)).trans hcr1, by rw [World.frozen?_setCell]; exact hfr1⟩, by rw [← hb]; exact World.cell?_setCell_same' _ _ _ (by rw [hcw1]; rfl), by rw [World.frozen?_setCell]; exact hfw1⟩, (hB.trans hbw).setCell (p := ⟨w.heap.size + 1, 0, none⟩) (by simp) _⟩
      cases hpa : pre.any (fullB c bs)
      · rw [hpa] at hcw1 hany
        gi_wp2
        exact fin (((cntB (gRow c bs x) : Nat) : Int) == ((min c (bs.length - x * c) : Nat) : Int)) (by rw [hany, hfull, Bool.eq_iff_iff]; simp; omega)
      · rw [hpa] at hcw1 hany
        gi_wp2
        exact fin true (by rw [hany]; rfl)
  case done =>
    rintro D ys W hD rfl ⟨⟨⟨hp, hcr, hfr⟩, hcw, hfw⟩, hB⟩ hK
    gi_wp2
    have hK' := (KeepsOthers.setCell W ⟨w.heap.size, 0, none⟩ (.bool ((List.range (gK c bs.length)).any (fullB c bs)))).same D _ hK rfl
    have hgr : gridB (c : Int) bs = (List.range (gK c bs.length)).any (fullB c bs) := by
      unfold gridB
      rw [if_neg (by omega), Int.toNat_natCast, List.all_eq_true.2 hp, Bool.true_and]
    refine ⟨by simp, .inl ⟨_, _, rfl, run_takeDeferred hK', ?_⟩⟩
    have hc5 := cell_kept (World.cell?_setCell_same' W ⟨w.heap.size, 0, none⟩ (.bool ((List.range (gK c bs.length)).any (fullB c bs))) (by rw [hcr]; rfl)) (grownBy_putObj' _ D (.deferred none)) (fun r e => by cases e; exact ⟨_, hK', rfl⟩)
    refine ⟨.bool ((List.range (gK c bs.length)).any (fullB c bs)), ?_, by rw [hgr], (hB.setCell (p := ⟨w.heap.size, 0, none⟩) (Nat.le_refl _) _).trans (belowK_b (w := w) (Nat.le_refl _) _ D _ _ (by omega) hK' rfl rfl)⟩
    simp [results, Tryz.f215, go_sem, hc5]
  case stop =>
    rintro D cd pre W hD ⟨k, hk, rfl⟩ ⟨⟨rfl, ini, last, e1, e2, hcr⟩, hB⟩ hK
    gi_wp2
    have hgr : gridB (c : Int) bs = false := by
      have hm : last ∈ List.range (gK c bs.length) := by
        have : last ∈ List.range k := by rw [e1]; simp
        rw [List.mem_range] at this ⊢; omega
      unfold gridB
      rw [if_neg (by omega), Int.toNat_natCast]
      have : (List.range (gK c bs.length)).all (someB c bs) = false := by
        cases hx : (List.range (gK c bs.length)).all (someB c bs)
        · rfl
        · rw [List.all_eq_true.1 hx _ hm] at e2; cases e2
      rw [this, Bool.false_and]
    refine ⟨by simp, .inl ⟨_, _, rfl, run_takeDeferred hK, ?_⟩⟩
    have hc5 := cell_kept hcr (grownBy_putObj' _ D (.deferred none)) (fun r e => by cases e; exact ⟨_, hK, rfl⟩)
    refine ⟨.bool false, ?_, by rw [hgr], hB.trans (belowK_b (w := w) (Nat.le_refl _) W D _ _ (by omega) hK rfl rfl)⟩
    simp [results, Tryz.f215, go_sem, hc5]
end Go.Proofs
