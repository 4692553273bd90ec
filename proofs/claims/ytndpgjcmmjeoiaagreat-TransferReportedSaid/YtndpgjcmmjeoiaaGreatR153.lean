/- Proved: whatever the input, elasticstorelaw20.TransferReported returns true, and its input reads as it did. No condition. -/
import Derived.Test.YtndpgjcmmjeoiaaGreatQe
import Derived.Test.YtndpgjcmmjeoiaaGreatQf
import Derived.Test.YtndpgjcmmjeoiaaGreatQg
import Derived.Test.YtndpgjcmmjeoiaaGreatG5
set_option linter.unusedVariables false
set_option linter.unusedSimpArgs false
set_option maxRecDepth 8000
set_option maxHeartbeats 1000000
namespace Go.Proofs.YtndpgjcmmjeoiaaGreat
open Go.AM
attribute [local irreducible] AM.evalR AM.evalD AM.Runs AM.valK AM.dK AM.opK AM.stepR AM.CallS AM.St.Le
theorem args_of {α : Type} {l : List α} (h : l.length = 1) : ∃ d0, l = [d0] := by
  match l, h with
  | [d0], _ => exact ⟨d0, rfl⟩
set_option maxRecDepth 100000 in
theorem transferReported_lifted (os : Os) (started : os.Started) (H : Type) (enc : TypeId × Value → H) :
    ReturnsInHanded {} Tryz.checked os 5 .any (Rows.transferReportedSpec.pre6 enc Tryz.prog Tryz.f5 Rows.transferReportedRow.domain false) (Rows.transferReportedSpec.post enc Tryz.prog Tryz.f5 false true false false) := by
  refine returnsInHanded_of_change_sized (C := Tryz.checked) row_own started (by kernel_rfl) Tryz.func5
    (ChangeSpec.witness6 (enc := enc) (C := Tryz.checked) false ⟨#[], #[.slice none 0 0], []⟩ 8 (by kernel_rfl) (by kernel_rfl) (by kernel_rfl) (by kernel_rfl)) ?_
  intro W base args ds gs before hval hW _ hsz _
  refine row_any row_laid row_bool (ts := [46]) (by kernel_rfl) (args_cons oaIs (by kernel_rfl) (by kernel_rfl) args_nil) (by kernel_rfl) rfl (fun ds h => ?_) (fun us h => ?_) W base args ds gs before hval hW hsz
  · obtain ⟨d0, rfl⟩ := args_of h
    exact ⟨rfl, rfl, rfl⟩
  · skip
    obtain ⟨_, us0, rfl, ⟨a0, h0, rfl⟩, k0⟩ := all_cons h
    obtain rfl := all_nil k0
    exact law_TransferReported false a0 h0
theorem transferReported_e0 : Tryz.pinned.checked.prog.funcNamed Rows.transferReportedRow.func = some 5 := by kernel_rfl
theorem transferReported_e1 : (Rows.transferReportedRow.inPlace == Tryz.pinned.checked.prog.inPlace 5) = true := by kernel_rfl
theorem transferReported_e2 : (Rows.transferReportedRow.unfollowed == Tryz.pinned.checked.prog.unfollowed 5) = true := by kernel_rfl
theorem transferReported_e3 : (Rows.transferReportedRow.recurses == Tryz.pinned.checked.prog.recurses 5) = true := by kernel_rfl
theorem transferReported_e4 : (Rows.transferReportedRow.named == Tryz.pinned.checked.prog.varsNamed 5) = true := by kernel_rfl
theorem transferReported_e5 : (Rows.transferReportedRow.lifted == Tryz.pinned.checked.prog.liftsFinal) = true := rk_lifts
theorem transferReported_e6 : (Tryz.pinned.checked.prog.make == some Rows.transferReportedRow.make) = true := rk_make
theorem transferReported_e7 : joinedFacts Tryz.pinned.checked.prog 5 Tryz.f5 Rows.transferReportedSpec Rows.transferReportedRow = true := by
  unfold joinedFacts
  rw [transferReported_e1, transferReported_e2, transferReported_e3, transferReported_e4, transferReported_e5, transferReported_e6, rk_laid, rk_maps, rk_heard, rk_mayEnter]
  kernel_rfl
theorem transferReported_e8 : Tryz.f5.isInstance Tryz.pinned.checked.prog Rows.transferReportedRow.origin Rows.transferReportedRow.targs := of_decide_eq_true (by kernel_rfl)
theorem transferReported_e9 : Tryz.f5.isWrapper Tryz.pinned.checked.prog Rows.transferReportedRow.wrapper Rows.transferReportedRow.mainSum := by unfold Func.isWrapper; first | (rw [if_pos (by decide +kernel)]; kernel_rfl) | (rw [if_neg (by decide +kernel)]; exact ⟨rfl, rfl⟩)
theorem transferReported_holds : Rows.TransferReportedSaid :=
  OpenClaim.holds_of_wide 5 Tryz.f5 rfl rfl rfl rfl rfl rfl rfl ⟨rfl, rfl, rfl, rfl, rfl⟩ rfl rfl rfl rfl rfl transferReported_e0 Tryz.func5 transferReported_e7 transferReported_e8 transferReported_e9
    (fun os started H enc _ => transferReported_lifted os started H enc)
end Go.Proofs.YtndpgjcmmjeoiaaGreat
