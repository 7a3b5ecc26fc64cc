/- The evaluator's answers to the law CoreArith at kind 7: each operator, on tokens; a division by nothing apart. -/
import Derived.Test.YtdfeelmphlellaaGreatDoorNd
import Derived.KernelRfl
namespace Go.Proofs.YtdfeelmphlellaaGreatDoor
open Go.RowKit
open Ev
set_option linter.unusedSimpArgs false
set_option linter.unusedVariables false

theorem check_77 : AskC 7 7 := by unfold AskC; kernel_rfl
theorem ask_7_0 : AskA 7 0 [43] 0 := by intro ax axm; kernel_rfl
theorem ask_7_1 : AskA 7 1 [45] 0 := by intro ax axm; kernel_rfl
theorem ask_7_2 : AskA 7 2 [42] 0 := by intro ax axm; kernel_rfl
theorem ask_7_3 : AskA 7 3 [47] 0 := by intro ax axm; kernel_rfl
theorem ask_7_4 : AskA 7 4 [37] 0 := by intro ax axm; kernel_rfl
theorem ask_7_5 : AskA 7 5 [38] 0 := by intro ax axm; kernel_rfl
theorem ask_7_6 : AskA 7 6 [124] 0 := by intro ax axm; kernel_rfl
theorem ask_7_7 : AskA 7 7 [94] 0 := by intro ax axm; kernel_rfl
theorem ask_7_8 : AskA 7 8 [38, 94] 0 := by intro ax axm; kernel_rfl
theorem ask_7_3z : AskA 7 3 [47] 18 := by intro ax axm; kernel_rfl
theorem ask_7_4z : AskA 7 4 [37] 18 := by intro ax axm; kernel_rfl
end Go.Proofs.YtdfeelmphlellaaGreatDoor
