/- slices.Sort and slices.Compact at []int, on a list of the caller's. -/
import Derived.Test.YtmhnmookgbmmbaaGreatSl
import Derived.Test.YtmhnmookgbmmbaaGreatHd
import Derived.Sort.OwnSortedInts
set_option linter.unusedVariables false
set_option linter.unusedSimpArgs false
namespace Go.Proofs
open Go.AM Go.Sort

/-- Ascending. -/
def sortI (zs : List Int) : List Int := zs.mergeSort fun x y => decide (x ≤ y)
theorem sortI_length (zs : List Int) : (sortI zs).length = zs.length := by simp [sortI]
theorem sort_turns (zs : List Int) (hsz : zs.length < 4611686018427387904) : AM.Turns Tryz.prog 73 3 zs (sortI zs) := by
  intro w x hrow
  rcases hrow.2 with ⟨rfl, h0⟩ | ⟨g, cap, cur, rfl, hb, hg, h1, h2, h3, h4⟩
  · have e : zs = [] := List.eq_nil_of_length_eq_zero h0
    subst e
    refine (Tryz.slices_Sort_int_none none 0 w).mono ?_
    rintro e w' ⟨rfl, rfl⟩
    exact ⟨rfl, by simpa [sortI] using hrow, Ext.refl _ _⟩
  · have ht : cur.toList.take zs.length = zs.map (Value.int .i64) := by simpa using h4
    refine (Tryz.slices_Sort_int g 0 cap zs w (holds_of_blockI hg ht) (Array.getElem?_eq_some_iff.1 hg).1 hsz).mono ?_
    rintro e w' ⟨rfl, n, os, rfl⟩
    have hl : (sortI zs).length = zs.length := sortI_length zs
    refine ⟨rfl, ?_, ?_⟩
    · have := ownsRow_sortedI (n := n) (os := os) hl hb hg h1 h2 h3
      rw [hl]; exact this
    · have := grownBy_sortedI (w := w) (g := g) (n := n) (os := os) (sortI zs).toArray
      obtain ⟨q1, q2, q3, q4, q5⟩ := this
      exact ⟨q1, q2, q3, q4, fun b hb hne => q5 b hb (fun e => hne (by simpa [blk, eq_comm] using e))⟩
/-- Runs of equal elements, once. -/
def compactI (zs : List Int) : List Int := Lib.compact zs
theorem compactI_le (zs : List Int) : (compactI zs).length ≤ zs.length := by
  unfold compactI Lib.compact Lib.compactUpTo
  rw [List.length_map]
  exact Nat.le_trans (List.length_filter_le _ _) (by simp)
theorem compact_gives (k : Nat) (zs : List Int) (hsz : zs.length ≤ 9223372036854775807) : AM.Gives Tryz.prog 74 k [] 3 1 (zs.map .i) (fun l => l = (compactI zs).map .i) := by
  refine Gives.of_ints k ?_
  intro w x hrow
  rcases hrow.2 with ⟨rfl, h0⟩ | ⟨g, cap, cur, rfl, hb, hg, h1, h2, h3, h4⟩
  · have e : zs = [] := List.eq_nil_of_length_eq_zero h0
    subst e
    refine (Tryz.slices_Compact_int_empty none 0 w).mono ?_
    rintro e w' ⟨rfl, rfl⟩
    exact ⟨_, rfl, hrow, Ext.refl _ _, fun b hb => .inr hb⟩
  · have ht : cur.toList.take zs.length = zs.map (Value.int .i64) := by simpa using h4
    refine (Tryz.slices_Compact_int g 0 cap zs w (holds_of_blockI hg ht) hsz h1).mono ?_
    rintro e w' ⟨rfl, q, rfl⟩
    have hle := compactI_le zs
    have hb2 := heap_sortedI (w := w) (g := g) (n := q) (os := #[]) (compactI zs ++ List.replicate (zs.length - (compactI zs).length) 0).toArray hg
    have e0 : ∀ W : World, grow W #[] = W := fun W => by simp [grow]
    rw [e0] at hb2
    refine ⟨_, rfl, ⟨by simp, .inr ⟨g, cap, _, rfl, hb, hb2, by omega, h2, by simp [putCells, h3], ?_⟩⟩, ?_, fun b hb => .inr hb⟩
    · rw [Nat.mul_one]
      have hlen : (compactI zs ++ List.replicate (zs.length - (compactI zs).length) 0).length = zs.length := by simp; omega
      have := take_putCellsI cur (compactI zs ++ List.replicate (zs.length - (compactI zs).length) 0) (by rw [hlen]; omega)
      have h5 := congrArg (List.take (compactI zs).length) this
      rw [List.take_take, Nat.min_eq_left (by rw [hlen]; exact hle)] at h5
      refine h5.trans ?_
      rw [List.map_append, List.take_append_of_le_length (by simp)]
      exact List.take_of_length_le (by simp)
    · have := grownBy_sortedI (w := w) (g := g) (n := q) (os := #[]) (compactI zs ++ List.replicate (zs.length - (compactI zs).length) 0).toArray
      rw [e0] at this
      obtain ⟨q1, q2, q3, q4, q5⟩ := this
      exact ⟨q1, q2, q3, q4, fun b hb hne => q5 b hb (fun e => hne (by simpa [blk, eq_comm] using e))⟩
end Go.Proofs
