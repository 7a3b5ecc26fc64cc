/- The evaluator's answers to the law CoreShifts at kind 3, shifts up: on tokens, by how the two words stand to one another. -/
import Derived.Test.YtdfeelmphlellaaGreatDoorNs
import Derived.KernelRfl
namespace Go.Proofs.YtdfeelmphlellaaGreatDoor
open Go.RowKit
open Ev
set_option linter.unusedSimpArgs false
set_option linter.unusedVariables false

theorem eq_3u : AskS 3 true ⟨[60, 60], 0, true, false, false, false, false⟩ := by intro ax axm; kernel_rfl
theorem lt_3u : AskS 3 true ⟨[60, 60], 0, false, true, true, false, false⟩ := by intro ax axm; kernel_rfl
theorem gt_3u : AskS 3 true ⟨[60, 60], 0, false, true, false, false, false⟩ := by intro ax axm; kernel_rfl
end Go.Proofs.YtdfeelmphlellaaGreatDoor
