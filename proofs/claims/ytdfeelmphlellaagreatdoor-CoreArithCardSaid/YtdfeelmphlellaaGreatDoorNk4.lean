/- The evaluator's answers to the law CoreArith at kind 4: each operator, on tokens; a division by nothing apart. -/
import Derived.Test.YtdfeelmphlellaaGreatDoorNd
import Derived.KernelRfl
namespace Go.Proofs.YtdfeelmphlellaaGreatDoor
open Go.RowKit
open Ev
set_option linter.unusedSimpArgs false
set_option linter.unusedVariables false

theorem check_44 : AskC 4 4 := by unfold AskC; kernel_rfl
theorem ask_4_0 : AskA 4 0 [43] 0 := by intro ax axm; kernel_rfl
theorem ask_4_1 : AskA 4 1 [45] 0 := by intro ax axm; kernel_rfl
theorem ask_4_2 : AskA 4 2 [42] 0 := by intro ax axm; kernel_rfl
theorem ask_4_3 : AskA 4 3 [47] 0 := by intro ax axm; kernel_rfl
theorem ask_4_4 : AskA 4 4 [37] 0 := by intro ax axm; kernel_rfl
theorem ask_4_5 : AskA 4 5 [38] 0 := by intro ax axm; kernel_rfl
theorem ask_4_6 : AskA 4 6 [124] 0 := by intro ax axm; kernel_rfl
theorem ask_4_7 : AskA 4 7 [94] 0 := by intro ax axm; kernel_rfl
theorem ask_4_8 : AskA 4 8 [38, 94] 0 := by intro ax axm; kernel_rfl
theorem ask_4_3z : AskA 4 3 [47] 18 := by intro ax axm; kernel_rfl
theorem ask_4_4z : AskA 4 4 [37] 18 := by intro ax axm; kernel_rfl
end Go.Proofs.YtdfeelmphlellaaGreatDoor
