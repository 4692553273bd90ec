/- Proved: whatever the input, elasticstorelaw20.TransferQuorums returns true, and its input reads as it did. No condition. -/
import Derived.Test.YtndpgjcmmjeoiaaGreatQe
import Derived.Test.YtndpgjcmmjeoiaaGreatQf
import Derived.Test.YtndpgjcmmjeoiaaGreatQg
import Derived.Test.YtndpgjcmmjeoiaaGreatG7
set_option linter.unusedVariables false
set_option linter.unusedSimpArgs false
set_option maxRecDepth 8000
set_option maxHeartbeats 1000000
namespace Go.Proofs.YtndpgjcmmjeoiaaGreat
open Go.AM
attribute [local irreducible] AM.evalR AM.evalD AM.Runs AM.valK AM.dK AM.opK AM.stepR AM.CallS AM.St.Le
theorem args_of {α : Type} {l : List α} (h : l.length = 6) : ∃ d0 d1 d2 d3 d4 d5, l = [d0, d1, d2, d3, d4, d5] := by
  match l, h with
  | [d0, d1, d2, d3, d4, d5], _ => exact ⟨d0, d1, d2, d3, d4, d5, rfl⟩
set_option maxRecDepth 100000 in
theorem transferQuorums_lifted (os : Os) (started : os.Started) (H : Type) (enc : TypeId × Value → H) :
    ReturnsInHanded {} Tryz.checked os 6 .any (Rows.transferQuorumsSpec.pre6 enc Tryz.prog Tryz.f6 Rows.transferQuorumsRow.domain false) (Rows.transferQuorumsSpec.post enc Tryz.prog Tryz.f6 false true false false) := by
  refine returnsInHanded_of_change_sized (C := Tryz.checked) row_own started (by kernel_rfl) Tryz.func6
    (ChangeSpec.witness6 (enc := enc) (C := Tryz.checked) false ⟨#[], #[.int .i64 0, .slice none 0 0, .int .i64 0, .int .i64 0, .int .i64 0, .int .i64 0], []⟩ 8 (by kernel_rfl) (by kernel_rfl) (by kernel_rfl) (by kernel_rfl)) ?_
  intro W base args ds gs before hval hW _ hsz _
  refine row_any row_laid row_bool (ts := [3, 46, 3, 3, 3, 3]) (by kernel_rfl) (args_cons oaI (by kernel_rfl) (by kernel_rfl) (args_cons oaIs (by kernel_rfl) (by kernel_rfl) (args_cons oaI (by kernel_rfl) (by kernel_rfl) (args_cons oaI (by kernel_rfl) (by kernel_rfl) (args_cons oaI (by kernel_rfl) (by kernel_rfl) (args_cons oaI (by kernel_rfl) (by kernel_rfl) args_nil)))))) (by kernel_rfl) rfl (fun ds h => ?_) (fun us h => ?_) W base args ds gs before hval hW hsz
  · obtain ⟨d0, d1, d2, d3, d4, d5, rfl⟩ := args_of h
    exact ⟨rfl, rfl, rfl⟩
  · skip
    obtain ⟨_, us0, rfl, ⟨a0, h0, rfl⟩, k0⟩ := all_cons h
    obtain ⟨_, us1, rfl, ⟨a1, h1, rfl⟩, k1⟩ := all_cons k0
    obtain ⟨_, us2, rfl, ⟨a2, h2, rfl⟩, k2⟩ := all_cons k1
    obtain ⟨_, us3, rfl, ⟨a3, h3, rfl⟩, k3⟩ := all_cons k2
    obtain ⟨_, us4, rfl, ⟨a4, h4, rfl⟩, k4⟩ := all_cons k3
    obtain ⟨_, us5, rfl, ⟨a5, h5, rfl⟩, k5⟩ := all_cons k4
    obtain rfl := all_nil k5
    exact law_TransferQuorums false a0 a1 a2 a3 a4 a5 h1
theorem transferQuorums_e0 : Tryz.pinned.checked.prog.funcNamed Rows.transferQuorumsRow.func = some 6 := by kernel_rfl
theorem transferQuorums_e1 : (Rows.transferQuorumsRow.inPlace == Tryz.pinned.checked.prog.inPlace 6) = true := by kernel_rfl
theorem transferQuorums_e2 : (Rows.transferQuorumsRow.unfollowed == Tryz.pinned.checked.prog.unfollowed 6) = true := by kernel_rfl
theorem transferQuorums_e3 : (Rows.transferQuorumsRow.recurses == Tryz.pinned.checked.prog.recurses 6) = true := by kernel_rfl
theorem transferQuorums_e4 : (Rows.transferQuorumsRow.named == Tryz.pinned.checked.prog.varsNamed 6) = true := by kernel_rfl
theorem transferQuorums_e5 : (Rows.transferQuorumsRow.lifted == Tryz.pinned.checked.prog.liftsFinal) = true := rk_lifts
theorem transferQuorums_e6 : (Tryz.pinned.checked.prog.make == some Rows.transferQuorumsRow.make) = true := rk_make
theorem transferQuorums_e7 : joinedFacts Tryz.pinned.checked.prog 6 Tryz.f6 Rows.transferQuorumsSpec Rows.transferQuorumsRow = true := by
  unfold joinedFacts
  rw [transferQuorums_e1, transferQuorums_e2, transferQuorums_e3, transferQuorums_e4, transferQuorums_e5, transferQuorums_e6, rk_laid, rk_maps, rk_heard, rk_mayEnter]
  kernel_rfl
theorem transferQuorums_e8 : Tryz.f6.isInstance Tryz.pinned.checked.prog Rows.transferQuorumsRow.origin Rows.transferQuorumsRow.targs := of_decide_eq_true (by kernel_rfl)
theorem transferQuorums_e9 : Tryz.f6.isWrapper Tryz.pinned.checked.prog Rows.transferQuorumsRow.wrapper Rows.transferQuorumsRow.mainSum := by unfold Func.isWrapper; first | (rw [if_pos (by decide +kernel)]; kernel_rfl) | (rw [if_neg (by decide +kernel)]; exact ⟨rfl, rfl⟩)
theorem transferQuorums_holds : Rows.TransferQuorumsSaid :=
  OpenClaim.holds_of_wide 6 Tryz.f6 rfl rfl rfl rfl rfl rfl rfl ⟨rfl, rfl, rfl, rfl, rfl⟩ rfl rfl rfl rfl rfl transferQuorums_e0 Tryz.func6 transferQuorums_e7 transferQuorums_e8 transferQuorums_e9
    (fun os started H enc _ => transferQuorums_lifted os started H enc)
end Go.Proofs.YtndpgjcmmjeoiaaGreat
