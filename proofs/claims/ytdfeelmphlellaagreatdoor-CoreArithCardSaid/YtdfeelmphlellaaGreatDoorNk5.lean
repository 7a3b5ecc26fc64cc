/- The evaluator's answers to the law CoreArith at kind 5: each operator, on tokens; a division by nothing apart. -/
import Derived.Test.YtdfeelmphlellaaGreatDoorNd
import Derived.KernelRfl
namespace Go.Proofs.YtdfeelmphlellaaGreatDoor
open Go.RowKit
open Ev
set_option linter.unusedSimpArgs false
set_option linter.unusedVariables false

theorem check_55 : AskC 5 5 := by unfold AskC; kernel_rfl
theorem ask_5_0 : AskA 5 0 [43] 0 := by intro ax axm; kernel_rfl
theorem ask_5_1 : AskA 5 1 [45] 0 := by intro ax axm; kernel_rfl
theorem ask_5_2 : AskA 5 2 [42] 0 := by intro ax axm; kernel_rfl
theorem ask_5_3 : AskA 5 3 [47] 0 := by intro ax axm; kernel_rfl
theorem ask_5_4 : AskA 5 4 [37] 0 := by intro ax axm; kernel_rfl
theorem ask_5_5 : AskA 5 5 [38] 0 := by intro ax axm; kernel_rfl
theorem ask_5_6 : AskA 5 6 [124] 0 := by intro ax axm; kernel_rfl
theorem ask_5_7 : AskA 5 7 [94] 0 := by intro ax axm; kernel_rfl
theorem ask_5_8 : AskA 5 8 [38, 94] 0 := by intro ax axm; kernel_rfl
theorem ask_5_3z : AskA 5 3 [47] 18 := by intro ax axm; kernel_rfl
theorem ask_5_4z : AskA 5 4 [37] 18 := by intro ax axm; kernel_rfl
end Go.Proofs.YtdfeelmphlellaaGreatDoor
