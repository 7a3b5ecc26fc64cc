/- The evaluator's answers to the law CoreArith at kind 3: each operator, on tokens; a division by nothing apart. -/
import Derived.Test.YtdfeelmphlellaaGreatDoorNd
import Derived.KernelRfl
namespace Go.Proofs.YtdfeelmphlellaaGreatDoor
open Go.RowKit
open Ev
set_option linter.unusedSimpArgs false
set_option linter.unusedVariables false

theorem check_33 : AskC 3 3 := by unfold AskC; kernel_rfl
theorem ask_3_0 : AskA 3 0 [43] 0 := by intro ax axm; kernel_rfl
theorem ask_3_1 : AskA 3 1 [45] 0 := by intro ax axm; kernel_rfl
theorem ask_3_2 : AskA 3 2 [42] 0 := by intro ax axm; kernel_rfl
theorem ask_3_3 : AskA 3 3 [47] 0 := by intro ax axm; kernel_rfl
theorem ask_3_4 : AskA 3 4 [37] 0 := by intro ax axm; kernel_rfl
theorem ask_3_5 : AskA 3 5 [38] 0 := by intro ax axm; kernel_rfl
theorem ask_3_6 : AskA 3 6 [124] 0 := by intro ax axm; kernel_rfl
theorem ask_3_7 : AskA 3 7 [94] 0 := by intro ax axm; kernel_rfl
theorem ask_3_8 : AskA 3 8 [38, 94] 0 := by intro ax axm; kernel_rfl
theorem ask_3_3z : AskA 3 3 [47] 18 := by intro ax axm; kernel_rfl
theorem ask_3_4z : AskA 3 4 [37] 18 := by intro ax axm; kernel_rfl
end Go.Proofs.YtdfeelmphlellaaGreatDoor
