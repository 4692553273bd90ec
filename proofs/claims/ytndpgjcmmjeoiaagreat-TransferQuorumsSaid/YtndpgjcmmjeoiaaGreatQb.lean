/- Package quorum: grid's rounds; what they keep. -/
import Derived.RangeFuncNested
import Derived.RangeFuncBound
import Derived.RangeFuncCalls
import Derived.RangeFuncLeaves
import Derived.RangeFuncBox
import Derived.Shelf.Abstract
import Derived.Shelf.RegionOpen
import Derived.WalkKit
import Derived.OwnWalkIn
import Derived.TacticsInMore
import Derived.LoopNIn
import Derived.LoopIn
import Derived.RegionIn
import Derived.Test.YtndpgjcmmjeoiaaGreatQa
set_option linter.unusedVariables false
set_option linter.unusedSimpArgs false
namespace Go.Proofs
open Go.RowKit Go.Shelf
attribute [local go_sem] Oper.semAt_some
def KpG (n₀ Bs Bn : Nat) (A B : World) : Prop := Below n₀ A B ∧ (∀ v, A.cell? ⟨Bs, 0, none⟩ = some v → B.cell? ⟨Bs, 0, none⟩ = some v) ∧ (∀ v, A.cell? ⟨Bn, 0, none⟩ = some v → B.cell? ⟨Bn, 0, none⟩ = some v)
theorem KpG.trans {n₀ Bs Bn : Nat} {A B C : World} (h : KpG n₀ Bs Bn A B) (k : KpG n₀ Bs Bn B C) : KpG n₀ Bs Bn A C := ⟨h.1.trans k.1, fun v q => k.2.1 v (h.2.1 v q), fun v q => k.2.2 v (h.2.2 v q)⟩
theorem cell_put_other (W : World) (l : Nat) (o o' : Obj) (ho : W.heap[l]? = some o) (hc : o.isCells = false) (B : Nat) (v : Value) (h : W.cell? ⟨B, 0, none⟩ = some v) : (W.putObj l o').cell? ⟨B, 0, none⟩ = some v := by
  have hne : B ≠ l := by
    rintro rfl
    unfold World.cell? at h
    simp only [ho] at h
    cases o <;> simp_all [Obj.isCells]
  unfold World.cell? at h ⊢
  simp only [World.putObj, Array.getElem?_setIfInBounds_ne (Ne.symm hne)]
  exact h
theorem KpG.put {n₀ Bs Bn : Nat} (W : World) (l : Nat) (o o' : Obj) (hl : n₀ ≤ l) (ho : W.heap[l]? = some o) (hc : o.isCells = false) (hw : o.isWalk = false) : KpG n₀ Bs Bn W (W.putObj l o') :=
  ⟨(Below.refl n₀ W).grown (grownBy_putObj' W l o') (by have := (Array.getElem?_eq_some_iff.1 ho).1; omega) (fun k e => by cases e; omega), fun v h => cell_put_other W l o o' ho hc Bs v h, fun v h => cell_put_other W l o o' ho hc Bn v h⟩
theorem chunk_stops (F : Fence) (n : Nat) (h7 : F.fn 270) (hro : F.round = none) (hn : 1 ≤ n) (n₀ Bs Bn b off len cap c : Nat) (hlen : len ≤ 1000000) (hc : 1 ≤ c ∧ c ≤ 1000000) (hcap : len ≤ cap) (hcm : cap ≤ 9223372036854775807) (w : World)
    (h1 : Bs < w.heap.size) (h2 : Bn < w.heap.size) (hBs : w.cell? ⟨Bs, 0, none⟩ = some (.slice (some ⟨b, off, none⟩) len cap)) (hBn : w.cell? ⟨Bn, 0, none⟩ = some (.int .i64 c)) :
    SeqStopsK F n Tryz.prog 270 #[.pointer (some ⟨Bs, 0, none⟩), .pointer (some ⟨Bn, 0, none⟩)] (fun x : Nat => #[Value.slice (some ⟨b, off + x * c, none⟩) (min c (len - x * c)) (min c (len - x * c))]) (KpG n₀ Bs Bn)
      (fun ys => ys = List.range (gK c len)) (fun pre => ∃ k, k ≤ gK c len ∧ pre = List.range k) (gK c len) w := fun l J Jx W hW hJ _ hY h0 =>
  chunk1_in F n h7 hro hn l Bs Bn b off len cap c hlen hc hcap hcm (KpG n₀ Bs Bn) (fun A B v h => h.2.1 v) (fun A B v h => h.2.2 v) J Jx (fun s W1 hs => hJ s W1 W1.drew none hs ⟨rfl, rfl, rfl, Nat.le_refl _, fun _ _ _ => rfl⟩ (fun r e => by cases e)) hY W
    ((hW.cell (p := ⟨Bs, 0, none⟩) h1).trans hBs) ((hW.cell (p := ⟨Bn, 0, none⟩) h2).trans hBn) h0
end Go.Proofs
