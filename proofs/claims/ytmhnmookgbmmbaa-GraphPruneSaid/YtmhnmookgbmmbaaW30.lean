/- Proved: whatever the input, elasticstorelaw10.GraphPrune returns true, and its input reads as it did. No condition. -/
import Derived.Test.YtmhnmookgbmmbaaW28
import Derived.Test.YtmhnmookgbmmbaaW24
set_option linter.unusedVariables false
set_option linter.unusedSimpArgs false
set_option maxRecDepth 8000
set_option maxHeartbeats 1000000
namespace Go.Proofs.Ytmhnmookgbmmbaa
open Go.AM
theorem ints_of {α : Type} {l : List α} (h : l.length = 3) : ∃ x y z, l = [x, y, z] := by
  match l, h with
  | [x, y, z], _ => exact ⟨x, y, z, rfl⟩
theorem args_of {α : Type} {l : List α} (h : l.length = 4) : ∃ d x y z, l = [d, x, y, z] := by
  match l, h with
  | [d, x, y, z], _ => exact ⟨d, x, y, z, rfl⟩
set_option maxRecDepth 100000 in
theorem graphPrune_lifted (os : Os) (started : os.Started) (H : Type) (enc : TypeId × Value → H) :
    ReturnsInHanded {} Try.checked os 5 .any (Rows.graphPruneSpec.pre6 enc Try.prog Try.f5 Rows.graphPruneRow.domain false) (Rows.graphPruneSpec.post enc Try.prog Try.f5 false true false false) := by
  refine returnsInHanded_of_change_sized (C := Try.checked) row_own started (by kernel_rfl) Try.func5
    (ChangeSpec.witness6 (enc := enc) (C := Try.checked) false ⟨#[], #[.slice none 0 0, .int .i64 0, .int .i64 0, .int .i64 0], []⟩ 8 (by kernel_rfl) (by kernel_rfl) (by kernel_rfl) (by kernel_rfl)) ?_
  intro W base args ds gs before hval hW _ hsz _
  refine row_law (n := 3) (by kernel_rfl) (by kernel_rfl) rfl (fun ds h => ?_) (fun b l zs hl hz => ?_) W base args ds gs before hval hW hsz
  · obtain ⟨d, x, y, z, rfl⟩ := args_of h
    exact ⟨rfl, rfl, rfl⟩
  · obtain ⟨x, y, z, rfl⟩ := ints_of hz
    exact law_GraphPrune b l x y z hl
theorem graphPrune_holds : Rows.GraphPruneSaid :=
  OpenClaim.holds_of_wide 5 Try.f5 rfl rfl rfl rfl rfl rfl rfl ⟨rfl, rfl, rfl, rfl, rfl⟩ rfl rfl rfl rfl rfl (by kernel_rfl) Try.func5 (by kernel_rfl)
    (of_decide_eq_true (by kernel_rfl)) (by unfold Func.isWrapper; first | (rw [if_pos (by decide +kernel)]; kernel_rfl) | (rw [if_neg (by decide +kernel)]; exact ⟨rfl, rfl⟩))
    (fun os started H enc _ => graphPrune_lifted os started H enc)
end Go.Proofs.Ytmhnmookgbmmbaa
