/- The evaluator's answers to the law CoreArith at kind 2: each operator, on tokens; a division by nothing apart. -/
import Derived.Test.YtdfeelmphlellaaGreatDoorNd
import Derived.KernelRfl
namespace Go.Proofs.YtdfeelmphlellaaGreatDoor
open Go.RowKit
open Ev
set_option linter.unusedSimpArgs false
set_option linter.unusedVariables false

theorem check_22 : AskC 2 2 := by unfold AskC; kernel_rfl
theorem ask_2_0 : AskA 2 0 [43] 0 := by intro ax axm; kernel_rfl
theorem ask_2_1 : AskA 2 1 [45] 0 := by intro ax axm; kernel_rfl
theorem ask_2_2 : AskA 2 2 [42] 0 := by intro ax axm; kernel_rfl
theorem ask_2_3 : AskA 2 3 [47] 0 := by intro ax axm; kernel_rfl
theorem ask_2_4 : AskA 2 4 [37] 0 := by intro ax axm; kernel_rfl
theorem ask_2_5 : AskA 2 5 [38] 0 := by intro ax axm; kernel_rfl
theorem ask_2_6 : AskA 2 6 [124] 0 := by intro ax axm; kernel_rfl
theorem ask_2_7 : AskA 2 7 [94] 0 := by intro ax axm; kernel_rfl
theorem ask_2_8 : AskA 2 8 [38, 94] 0 := by intro ax axm; kernel_rfl
theorem ask_2_3z : AskA 2 3 [47] 18 := by intro ax axm; kernel_rfl
theorem ask_2_4z : AskA 2 4 [37] 18 := by intro ax axm; kernel_rfl
end Go.Proofs.YtdfeelmphlellaaGreatDoor
