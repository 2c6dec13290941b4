/-
  The last step for the law RecomputeNames, apart from the walk.
-/
import Derived.Test.YtmlfcpglhipjgaaGreatRows
import Derived.WalkKit
import Derived.ProofKit
import Derived.OpenShut
import Derived.ShutString
import Derived.ChangeOld
import Derived.Below
namespace Go.Proofs.YtmlfcpglhipjgaaGreat.recomputeNames
open Go.ChangeShapes Go.WideShapes Go.ChangeAt Go.RowKit
open Go.ChangeMaps (open_string shut_string)
set_option linter.unusedVariables false

set_option maxRecDepth 100000 in
set_option maxHeartbeats 4000000 in
theorem jf : joinedFacts Tryz.pinned.checked.prog 12 Tryz.f12 Rows.recomputeNamesSpec Rows.recomputeNamesRow = true := by
  unfold joinedFacts
  simp only [Bool.and_eq_true]
  with_reducible repeat (refine And.intro ?_ ?_)
  all_goals (as_aux_lemma => kernel_rfl)

theorem over_of (h : ∀ (os : Os) (started : os.Started) (H : Type) (enc : TypeId × Value → H), ReturnsInHanded {} Tryz.checked os 12 .any (Rows.recomputeNamesSpec.pre6 enc Tryz.prog Tryz.f12 Rows.recomputeNamesRow.domain false) (Rows.recomputeNamesSpec.post enc Tryz.prog Tryz.f12 false true false false)) : Rows.recomputeNamesRow.holds Tryz.pinned (OpenSpec.ofChange Rows.recomputeNamesSpec) :=
  OpenClaim.holds_of_wide 12 Tryz.f12 rfl rfl rfl rfl rfl rfl rfl ⟨rfl, rfl, rfl, rfl, rfl⟩ rfl rfl rfl rfl rfl (by kernel_rfl) Tryz.func12 jf
    (of_decide_eq_true (by kernel_rfl)) (by unfold Func.isWrapper; first | (rw [if_pos (by decide +kernel)]; kernel_rfl) | (rw [if_neg (by decide +kernel)]; exact ⟨rfl, rfl⟩))
    (fun os started H enc _ => h os started H enc)
end Go.Proofs.YtmlfcpglhipjgaaGreat.recomputeNames
