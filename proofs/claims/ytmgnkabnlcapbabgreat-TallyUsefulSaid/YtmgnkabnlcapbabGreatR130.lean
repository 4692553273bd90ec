/- Proved: whatever the input, elasticstorelaw18.TallyUseful returns true, and its input reads as it did. No condition. -/
import Derived.Test.YtmgnkabnlcapbabGreatG6
set_option linter.unusedVariables false
set_option linter.unusedSimpArgs false
set_option maxRecDepth 8000
set_option maxHeartbeats 1000000
namespace Go.Proofs.YtmgnkabnlcapbabGreat
open Go.AM
attribute [local irreducible] AM.evalR AM.evalD AM.Runs AM.valK AM.dK AM.opK AM.stepR AM.CallS AM.St.Le
theorem args_of {α : Type} {l : List α} (h : l.length = 5) : ∃ d0 d1 d2 d3 d4, l = [d0, d1, d2, d3, d4] := by
  match l, h with
  | [d0, d1, d2, d3, d4], _ => exact ⟨d0, d1, d2, d3, d4, rfl⟩
set_option maxRecDepth 100000 in
theorem tallyUseful_lifted (os : Os) (started : os.Started) (H : Type) (enc : TypeId × Value → H) :
    ReturnsInHanded {} Tryz.checked os 3 .any (Rows.tallyUsefulSpec.pre6 enc Tryz.prog Tryz.f3 Rows.tallyUsefulRow.domain false) (Rows.tallyUsefulSpec.post enc Tryz.prog Tryz.f3 false true false false) := by
  refine returnsInHanded_of_change_sized (C := Tryz.checked) row_own started (by kernel_rfl) Tryz.func3
    (ChangeSpec.witness6 (enc := enc) (C := Tryz.checked) false ⟨#[], #[.int .i64 0, .slice none 0 0, .int .i64 0, .int .i64 0, .int .i64 0], []⟩ 8 (by kernel_rfl) (by kernel_rfl) (by kernel_rfl) (by kernel_rfl)) ?_
  intro W base args ds gs before hval hW _ hsz _
  refine row_any row_laid row_bool (ts := [3, 22, 3, 3, 3]) (by kernel_rfl) (args_cons oaI (by kernel_rfl) (by kernel_rfl) (args_cons oaIs (by kernel_rfl) (by kernel_rfl) (args_cons oaI (by kernel_rfl) (by kernel_rfl) (args_cons oaI (by kernel_rfl) (by kernel_rfl) (args_cons oaI (by kernel_rfl) (by kernel_rfl) args_nil))))) (by kernel_rfl) rfl (fun ds h => ?_) (fun us h => ?_) W base args ds gs before hval hW hsz
  · obtain ⟨d0, d1, d2, d3, d4, rfl⟩ := args_of h
    exact ⟨rfl, rfl, rfl⟩
  · skip
    obtain ⟨_, us0, rfl, ⟨a0, h0, rfl⟩, k0⟩ := all_cons h
    obtain ⟨_, us1, rfl, ⟨a1, h1, rfl⟩, k1⟩ := all_cons k0
    obtain ⟨_, us2, rfl, ⟨a2, h2, rfl⟩, k2⟩ := all_cons k1
    obtain ⟨_, us3, rfl, ⟨a3, h3, rfl⟩, k3⟩ := all_cons k2
    obtain ⟨_, us4, rfl, ⟨a4, h4, rfl⟩, k4⟩ := all_cons k3
    obtain rfl := all_nil k4
    exact law_TallyUseful false a0 a1 a2 a3 a4 h1
theorem tallyUseful_holds : Rows.TallyUsefulSaid :=
  OpenClaim.holds_of_wide 3 Tryz.f3 rfl rfl rfl rfl rfl rfl rfl ⟨rfl, rfl, rfl, rfl, rfl⟩ rfl rfl rfl rfl rfl (by kernel_rfl) Tryz.func3 (by kernel_rfl)
    (of_decide_eq_true (by kernel_rfl)) (by unfold Func.isWrapper; first | (rw [if_pos (by decide +kernel)]; kernel_rfl) | (rw [if_neg (by decide +kernel)]; exact ⟨rfl, rfl⟩))
    (fun os started H enc _ => tallyUseful_lifted os started H enc)
end Go.Proofs.YtmgnkabnlcapbabGreat
