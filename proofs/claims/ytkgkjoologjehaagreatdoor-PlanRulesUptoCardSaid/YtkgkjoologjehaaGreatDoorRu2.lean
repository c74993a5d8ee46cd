/- The row of PlanRules, second form (bulk at most 1048576): it holds. -/
import Derived.Test.YtkgkjoologjehaaGreatDoorRu1
import Derived.Test.YtkgkjoologjehaaGreatDoorRuF
namespace Go.Proofs.YtkgkjoologjehaaGreatDoor.planRules
open Go.ChangeShapes Go.WideShapes Go.ChangeAt Go.RowKit Go.Joins
theorem said : Rows.PlanRulesUptoSaid :=
  OpenClaim.holds_of_cond 4 Tryz.f4 rfl rfl rfl rfl rfl rfl rfl ⟨rfl, rfl, rfl, rfl, rfl⟩ rfl rfl rfl rfl rfl (by kernel_rfl) Tryz.func4 closedFacts
    (of_decide_eq_true (by kernel_rfl)) (by unfold Func.isWrapper; first | (rw [if_pos (by decide +kernel)]; kernel_rfl) | (rw [if_neg (by decide +kernel)]; exact ⟨rfl, rfl⟩))
    (fun os started H enc _ F => by rw [OpenClaim.pre_eq_preRow]; exact lifted os started H enc F)
end Go.Proofs.YtkgkjoologjehaaGreatDoor.planRules
