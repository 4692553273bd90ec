/- Proved: whatever the input, elasticstorelaw09.IntervalMembers returns true, and its input reads as it did. No condition. -/
import Derived.Test.YtmhnmookgbmmbaaGreatW61
import Derived.Test.YtmhnmookgbmmbaaGreatW24
set_option linter.unusedVariables false
set_option linter.unusedSimpArgs false
set_option maxRecDepth 8000
set_option maxHeartbeats 1000000
namespace Go.Proofs.YtmhnmookgbmmbaaGreat
open Go.AM
attribute [local irreducible] AM.evalR AM.evalD AM.Runs AM.valK AM.dK AM.opK AM.stepR AM.CallS AM.St.Le
theorem ints_of {α : Type} {l : List α} (h : l.length = 3) : ∃ x0 x1 x2, l = [x0, x1, x2] := by
  match l, h with
  | [x0, x1, x2], _ => exact ⟨x0, x1, x2, rfl⟩
theorem args_of {α : Type} {l : List α} (h : l.length = 4) : ∃ d x0 x1 x2, l = [d, x0, x1, x2] := by
  match l, h with
  | [d, x0, x1, x2], _ => exact ⟨d, x0, x1, x2, rfl⟩
set_option maxRecDepth 100000 in
theorem intervalMembers_lifted (os : Os) (started : os.Started) (H : Type) (enc : TypeId × Value → H) :
    ReturnsInHanded {} Tryz.checked os 5 .any (Rows.intervalMembersSpec.pre6 enc Tryz.prog Tryz.f5 Rows.intervalMembersRow.domain false) (Rows.intervalMembersSpec.post enc Tryz.prog Tryz.f5 false true false false) := by
  refine returnsInHanded_of_change_sized (C := Tryz.checked) row_own started (by kernel_rfl) Tryz.func5
    (ChangeSpec.witness6 (enc := enc) (C := Tryz.checked) false ⟨#[], #[.slice none 0 0, .int .i64 0, .int .i64 0, .int .i64 0], []⟩ 8 (by kernel_rfl) (by kernel_rfl) (by kernel_rfl) (by kernel_rfl)) ?_
  intro W base args ds gs before hval hW _ hsz _
  refine row_law (n := 3) (by kernel_rfl) (by kernel_rfl) rfl (fun ds h => ?_) (fun b l zs hl hz => ?_) W base args ds gs before hval hW hsz
  · obtain ⟨d, x0, x1, x2, rfl⟩ := args_of h
    exact ⟨rfl, rfl, rfl⟩
  · obtain ⟨x0, x1, x2, rfl⟩ := ints_of hz
    exact law_IntervalMembers b l x0 x1 x2 hl
theorem intervalMembers_holds : Rows.IntervalMembersSaid :=
  OpenClaim.holds_of_wide 5 Tryz.f5 rfl rfl rfl rfl rfl rfl rfl ⟨rfl, rfl, rfl, rfl, rfl⟩ rfl rfl rfl rfl rfl (by kernel_rfl) Tryz.func5 (by kernel_rfl)
    (of_decide_eq_true (by kernel_rfl)) (by unfold Func.isWrapper; first | (rw [if_pos (by decide +kernel)]; kernel_rfl) | (rw [if_neg (by decide +kernel)]; exact ⟨rfl, rfl⟩))
    (fun os started H enc _ => intervalMembers_lifted os started H enc)
end Go.Proofs.YtmhnmookgbmmbaaGreat
