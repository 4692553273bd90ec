/- Proved: whatever the input, elasticstorelaw10.GraphBuild returns true, and its input reads as it did. No condition. -/
import Derived.Test.YtmhnmookgbmmbaaW23
import Derived.Test.YtmhnmookgbmmbaaW24
set_option linter.unusedVariables false
set_option linter.unusedSimpArgs false
set_option maxRecDepth 8000
set_option maxHeartbeats 1000000
namespace Go.Proofs.Ytmhnmookgbmmbaa
open Go.AM
theorem two_of {α : Type} {l : List α} (h : l.length = 2) : ∃ a b, l = [a, b] := by
  match l, h with
  | [a, b], _ => exact ⟨a, b, rfl⟩
theorem three_of {α : Type} {l : List α} (h : l.length = 3) : ∃ a b c, l = [a, b, c] := by
  match l, h with
  | [a, b, c], _ => exact ⟨a, b, c, rfl⟩
set_option maxRecDepth 100000 in
theorem graphBuild_lifted (os : Os) (started : os.Started) (H : Type) (enc : TypeId × Value → H) :
    ReturnsInHanded {} Try.checked os 3 .any (Rows.graphBuildSpec.pre6 enc Try.prog Try.f3 Rows.graphBuildRow.domain false) (Rows.graphBuildSpec.post enc Try.prog Try.f3 false true false false) := by
  refine returnsInHanded_of_change_sized (C := Try.checked) row_own started (by kernel_rfl) Try.func3
    (ChangeSpec.witness6 (enc := enc) (C := Try.checked) false ⟨#[], #[.slice none 0 0, .int .i64 0, .int .i64 0], []⟩ 8 (by kernel_rfl) (by kernel_rfl) (by kernel_rfl) (by kernel_rfl)) ?_
  intro W base args ds gs before hval hW _ hsz _
  refine row_law (n := 2) (by kernel_rfl) (by kernel_rfl) rfl (fun ds h => ?_) (fun b l zs hl hz => ?_) W base args ds gs before hval hW hsz
  · obtain ⟨x, y, z, rfl⟩ := three_of h
    exact ⟨rfl, rfl, rfl⟩
  · obtain ⟨x, y, rfl⟩ := two_of hz
    exact law_GraphBuild b l x y hl
theorem graphBuild_holds : Rows.GraphBuildSaid :=
  OpenClaim.holds_of_wide 3 Try.f3 rfl rfl rfl rfl rfl rfl rfl ⟨rfl, rfl, rfl, rfl, rfl⟩ rfl rfl rfl rfl rfl (by kernel_rfl) Try.func3 (by kernel_rfl)
    (of_decide_eq_true (by kernel_rfl)) (by unfold Func.isWrapper; first | (rw [if_pos (by decide +kernel)]; kernel_rfl) | (rw [if_neg (by decide +kernel)]; exact ⟨rfl, rfl⟩))
    (fun os started H enc _ => graphBuild_lifted os started H enc)
end Go.Proofs.Ytmhnmookgbmmbaa
