/- The evaluator's answers to the law CoreShifts at kind 4, shifts down: on tokens, by how the two words stand to one another. -/
import Derived.Test.YtdfeelmphlellaaGreatDoorNs
import Derived.KernelRfl
namespace Go.Proofs.YtdfeelmphlellaaGreatDoor
open Go.RowKit
open Ev
set_option linter.unusedSimpArgs false
set_option linter.unusedVariables false

theorem eq_4d : AskS 4 false ⟨[62, 62], 0, true, false, false, false, false⟩ := by intro ax axm; kernel_rfl
theorem lt_4d : AskS 4 false ⟨[62, 62], 0, false, true, true, false, false⟩ := by intro ax axm; kernel_rfl
theorem gt_4d : AskS 4 false ⟨[62, 62], 0, false, true, false, false, false⟩ := by intro ax axm; kernel_rfl
theorem ng_4d : AskS 4 false ⟨[62, 62], 0, false, true, true, true, false⟩ := by intro ax axm; kernel_rfl
theorem er_4d (less na nb : Bool) : AskS 4 false ⟨[62, 62], 19, false, false, less, na, nb⟩ := by intro ax axm; kernel_rfl
end Go.Proofs.YtdfeelmphlellaaGreatDoor
