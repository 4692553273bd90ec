/- Proved: whatever the input, elasticstorelaw09.IntervalClosed returns true, and its input reads as it did. No condition. -/
import Derived.Test.YtmhnmookgbmmbaaW54
import Derived.Test.YtmhnmookgbmmbaaW24
set_option linter.unusedVariables false
set_option linter.unusedSimpArgs false
set_option maxRecDepth 8000
set_option maxHeartbeats 1000000
namespace Go.Proofs.Ytmhnmookgbmmbaa
open Go.AM
attribute [local irreducible] AM.evalR AM.evalD AM.Runs AM.valK AM.dK AM.opK AM.stepR AM.CallS AM.St.Le
theorem ints_of {α : Type} {l : List α} (h : l.length = 4) : ∃ x0 x1 x2 x3, l = [x0, x1, x2, x3] := by
  match l, h with
  | [x0, x1, x2, x3], _ => exact ⟨x0, x1, x2, x3, rfl⟩
theorem args_of {α : Type} {l : List α} (h : l.length = 5) : ∃ d x0 x1 x2 x3, l = [d, x0, x1, x2, x3] := by
  match l, h with
  | [d, x0, x1, x2, x3], _ => exact ⟨d, x0, x1, x2, x3, rfl⟩
set_option maxRecDepth 100000 in
theorem intervalClosed_lifted (os : Os) (started : os.Started) (H : Type) (enc : TypeId × Value → H) :
    ReturnsInHanded {} Try.checked os 10 .any (Rows.intervalClosedSpec.pre6 enc Try.prog Try.f10 Rows.intervalClosedRow.domain false) (Rows.intervalClosedSpec.post enc Try.prog Try.f10 false true false false) := by
  refine returnsInHanded_of_change_sized (C := Try.checked) row_own started (by kernel_rfl) Try.func10
    (ChangeSpec.witness6 (enc := enc) (C := Try.checked) false ⟨#[], #[.slice none 0 0, .int .i64 0, .int .i64 0, .int .i64 0, .int .i64 0], []⟩ 8 (by kernel_rfl) (by kernel_rfl) (by kernel_rfl) (by kernel_rfl)) ?_
  intro W base args ds gs before hval hW _ hsz _
  refine row_law (n := 4) (by kernel_rfl) (by kernel_rfl) rfl (fun ds h => ?_) (fun b l zs hl hz => ?_) W base args ds gs before hval hW hsz
  · obtain ⟨d, x0, x1, x2, x3, rfl⟩ := args_of h
    exact ⟨rfl, rfl, rfl⟩
  · obtain ⟨x0, x1, x2, x3, rfl⟩ := ints_of hz
    exact law_IntervalClosed b l x0 x1 x2 x3 hl
theorem intervalClosed_holds : Rows.IntervalClosedSaid :=
  OpenClaim.holds_of_wide 10 Try.f10 rfl rfl rfl rfl rfl rfl rfl ⟨rfl, rfl, rfl, rfl, rfl⟩ rfl rfl rfl rfl rfl (by kernel_rfl) Try.func10 (by kernel_rfl)
    (of_decide_eq_true (by kernel_rfl)) (by unfold Func.isWrapper; first | (rw [if_pos (by decide +kernel)]; kernel_rfl) | (rw [if_neg (by decide +kernel)]; exact ⟨rfl, rfl⟩))
    (fun os started H enc _ => intervalClosed_lifted os started H enc)
end Go.Proofs.Ytmhnmookgbmmbaa
