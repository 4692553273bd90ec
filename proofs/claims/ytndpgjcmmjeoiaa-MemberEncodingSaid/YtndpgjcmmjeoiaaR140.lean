/- Proved: whatever the input, elasticstorelaw07.MemberEncoding returns true, and its input reads as it did. No condition. -/
import Derived.Test.YtndpgjcmmjeoiaaG4
set_option linter.unusedVariables false
set_option linter.unusedSimpArgs false
set_option maxRecDepth 8000
set_option maxHeartbeats 1000000
namespace Go.Proofs.Ytndpgjcmmjeoiaa
open Go.AM
attribute [local irreducible] AM.evalR AM.evalD AM.Runs AM.valK AM.dK AM.opK AM.stepR AM.CallS AM.St.Le
theorem args_of {α : Type} {l : List α} (h : l.length = 2) : ∃ d0 d1, l = [d0, d1] := by
  match l, h with
  | [d0, d1], _ => exact ⟨d0, d1, rfl⟩
set_option maxRecDepth 100000 in
theorem memberEncoding_lifted (os : Os) (started : os.Started) (H : Type) (enc : TypeId × Value → H) :
    ReturnsInHanded {} Try.checked os 3 .any (Rows.memberEncodingSpec.pre6 enc Try.prog Try.f3 Rows.memberEncodingRow.domain false) (Rows.memberEncodingSpec.post enc Try.prog Try.f3 false true false false) := by
  refine returnsInHanded_of_change_sized (C := Try.checked) row_own started (by kernel_rfl) Try.func3
    (ChangeSpec.witness6 (enc := enc) (C := Try.checked) false ⟨#[], #[.agg #[.slice none 0 0, .int .i64 0, .int .i64 0, .int .i64 0], .slice none 0 0], []⟩ 8 (by kernel_rfl) (by kernel_rfl) (by kernel_rfl) (by kernel_rfl)) ?_
  intro W base args ds gs before hval hW _ hsz _
  refine row_any row_laid row_bool (ts := [26, 27]) (by kernel_rfl) (args_cons oaGe (by kernel_rfl) (by kernel_rfl) (args_cons oaBy (by kernel_rfl) (by kernel_rfl) args_nil)) (by kernel_rfl) rfl (fun ds h => ?_) (fun us h => ?_) W base args ds gs before hval hW hsz
  · obtain ⟨d0, d1, rfl⟩ := args_of h
    exact ⟨rfl, rfl, rfl⟩
  · skip
    obtain ⟨_, us0, rfl, ⟨a0, h0, rfl⟩, k0⟩ := all_cons h
    obtain ⟨_, us1, rfl, ⟨a1, h1, rfl⟩, k1⟩ := all_cons k0
    obtain rfl := all_nil k1
    exact law_MemberEncoding false a0 a1 h1.1 h1.2 h0.1
theorem memberEncoding_holds : Rows.MemberEncodingSaid :=
  OpenClaim.holds_of_wide 3 Try.f3 rfl rfl rfl rfl rfl rfl rfl ⟨rfl, rfl, rfl, rfl, rfl⟩ rfl rfl rfl rfl rfl (by kernel_rfl) Try.func3 (by kernel_rfl)
    (of_decide_eq_true (by kernel_rfl)) (by unfold Func.isWrapper; first | (rw [if_pos (by decide +kernel)]; kernel_rfl) | (rw [if_neg (by decide +kernel)]; exact ⟨rfl, rfl⟩))
    (fun os started H enc _ => memberEncoding_lifted os started H enc)
end Go.Proofs.Ytndpgjcmmjeoiaa
