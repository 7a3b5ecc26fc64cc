/- The evaluator's answers to the law CoreArith at kind 6: each operator, on tokens; a division by nothing apart. -/
import Derived.Test.YtdfeelmphlellaaGreatDoorNd
import Derived.KernelRfl
namespace Go.Proofs.YtdfeelmphlellaaGreatDoor
open Go.RowKit
open Ev
set_option linter.unusedSimpArgs false
set_option linter.unusedVariables false

theorem ask_6_0 : AskA 6 0 [43] 0 := by intro ax axm; kernel_rfl
theorem ask_6_1 : AskA 6 1 [45] 0 := by intro ax axm; kernel_rfl
theorem ask_6_2 : AskA 6 2 [42] 0 := by intro ax axm; kernel_rfl
theorem ask_6_3 : AskA 6 3 [47] 0 := by intro ax axm; kernel_rfl
theorem ask_6_4 : AskA 6 4 [37] 0 := by intro ax axm; kernel_rfl
theorem ask_6_5 : AskA 6 5 [38] 0 := by intro ax axm; kernel_rfl
theorem ask_6_6 : AskA 6 6 [124] 0 := by intro ax axm; kernel_rfl
theorem ask_6_7 : AskA 6 7 [94] 0 := by intro ax axm; kernel_rfl
theorem ask_6_8 : AskA 6 8 [38, 94] 0 := by intro ax axm; kernel_rfl
theorem ask_6_3z : AskA 6 3 [47] 18 := by intro ax axm; kernel_rfl
theorem ask_6_4z : AskA 6 4 [37] 18 := by intro ax axm; kernel_rfl
end Go.Proofs.YtdfeelmphlellaaGreatDoor
