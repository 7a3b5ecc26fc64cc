/- The laws CoreArith and CoreShifts: what the evaluator is told: the table of operators, a module's measure and check, and the functions over words; words whose value is not known go as tokens. -/
import Derived.Test.YtdfeelmphlellaaGreatDoorNc
import Derived.Test.YtdfeelmphlellaaGreatDoorWb
import Derived.Test.YtdfeelmphlellaaGreatDoorRd
import Derived.Test.YtdfeelmphlellaaGreatDoorCards
import Derived.KernelRfl
import Derived.Lib.LaidTab
namespace Go.Proofs.YtdfeelmphlellaaGreatDoor
open Go.RowKit
open Ev
set_option linter.unusedSimpArgs false
set_option linter.unusedVariables false

def strV (l : List UInt8) : Value := .string ⟨l.toArray⟩
def opsL : List (List UInt8) := [[43], [45], [42], [47], [37], [38], [124], [94], [38, 94]]
def opsCells : List Value := opsL.map strV
structure Laid (w : World) : Prop where
  ops : w.heap[0]? = some (.cells opsCells.toArray 179)
/-! ### a module's blocks -/
def shapeCells : List Value := [.int .i64 1, .slice none 0 0, .int .i64 0, .int .i64 2, .slice none 0 0, .int .i64 0, .int .i64 3, .slice none 0 0, .int .i64 0, .int .i64 4, .slice none 0 0, .int .i64 0, .int .i64 5, .slice none 0 0, .int .i64 0, .int .i64 6, .slice none 0 0, .int .i64 0, .int .i64 7, .slice none 0 0, .int .i64 0]
def shapes : Rw := (shapeCells, 79, 3)
def funcs (res : Int) : Rw := ([.int .i64 0, .slice none 0 0, .slice none 0 0, .int .i64 0, .slice (some ⟨4, 0, none⟩) 1 1, .int .i64 2, .slice (some ⟨2, 0, none⟩) 2 2, .slice none 0 0, .int .i64 res, .slice (some ⟨3, 0, none⟩) 4 4], 62, 5)
def locals_ (k : Int) : Rw := ([.int .i64 (k - 1), .int .i64 (k - 1)], 3, 1)
def margs : List Value := [.agg #[.slice (some ⟨0, 0, none⟩) 7 7, .slice (some ⟨1, 0, none⟩) 2 2]]
def ones : Rw := (List.replicate 7 (.int .i64 1), 3, 1)
theorem measure_E : sliceOf 2 (evCall Tryz.prog (cfgT 2) 10000 45 margs (rowsT [shapes] 0 .leaf) 2) = some (ones, 7, true) := by kernel_rfl
theorem follows : (Tryz.prog).follows .mixedOrders = true := by kernel_rfl
/-! ### what is told of functions over words -/
def tYes (args : List Value) : M AObj Value := match args with
  | [] => M.pure (.bool true)
  | _ => M.fail
def tWrap (k : Int) (args : List Value) : M AObj Value := match args with
  | [.int .i64 kk, .chan (some i)] => if kk = k then (if i = 4 then M.pure (.chan (some 6)) else if i = 5 then M.pure (.chan (some 7)) else M.fail) else M.fail
  | _ => M.fail
def tIs (k : Int) (args : List Value) : M AObj Value := match args with
  | [.int .i64 kk, .chan (some i)] => if kk = k ∧ (i = 6 ∨ i = 7) then M.pure (.bool true) else M.fail
  | _ => M.fail
def tArith (k : Int) (sg : List UInt8) (err : Int) (args : List Value) : M AObj Value := match args with
  | [.int .i64 kk, .string s, .chan (some i), .chan (some j)] => if kk = k ∧ s = ⟨sg.toArray⟩ ∧ i = 6 ∧ j = 7 then M.pure (.tuple #[.chan (some 8), .int .i64 err]) else M.fail
  | _ => M.fail
theorem local_tYes (args : List Value) : M.Local (tYes args) := by
  unfold tYes
  repeat' split
  all_goals first | exact M.local_pure _ | exact M.local_fail
theorem local_tWrap (k : Int) (args : List Value) : M.Local (tWrap k args) := by
  unfold tWrap
  repeat' split
  all_goals first | exact M.local_pure _ | exact M.local_fail
theorem local_tIs (k : Int) (args : List Value) : M.Local (tIs k args) := by
  unfold tIs
  repeat' split
  all_goals first | exact M.local_pure _ | exact M.local_fail
theorem local_tArith (k : Int) (sg : List UInt8) (err : Int) (args : List Value) : M.Local (tArith k sg err args) := by
  unfold tArith
  repeat' split
  all_goals first | exact M.local_pure _ | exact M.local_fail
/-- which function is told of how -/
inductive Tell where
  | yes
  | wrap
  | is
  | arith
  | measure
  | check
  | none
def tellA (g : FuncId) : Tell := match Nat.beq g 5 with
  | true => .yes
  | false => match Nat.beq g 7 with
    | true => .wrap
    | false => match Nat.beq g 18 with
      | true => .is
      | false => match Nat.beq g 84 with
        | true => .arith
        | false => match Nat.beq g 10 with
          | true => .arith
          | false => match Nat.beq g 45 with
            | true => .measure
            | false => match Nat.beq g 46 with
              | true => .check
              | false => .none
noncomputable def orcA (k : Int) (sg : List UInt8) (err : Int) (g : FuncId) (args : List Value) : Option (M AObj Value) := match tellA g with
  | .yes => some (tYes args)
  | .wrap => some (tWrap k args)
  | .is => some (tIs k args)
  | .arith => some (tArith k sg err args)
  | .measure => some (toldSlice [shapes] 2 margs ones 7 true args)
  | .check => some (toldPlain [shapes, funcs k, locals_ k] 5 margs (.int .i64 0) args)
  | .none => none
theorem orcA_local (k : Int) (sg : List UInt8) (err : Int) : ∀ g args m, orcA k sg err g args = some m → M.Local m := by
  intro g args m e
  unfold orcA at e
  split at e <;> cases e
  · exact local_tYes _
  · exact local_tWrap _ _
  · exact local_tIs _ _
  · exact local_tArith _ _ _ _
  · exact local_toldSlice _ _ _ _ _ _ _
  · exact local_toldPlain _ _ _ _ _
/-- what the tokens are -/
structure Ax (x y a b r : Nat) (p : Plan) : Prop where
  x : p 4 = some ⟨0, x, 0, 0⟩
  y : p 5 = some ⟨0, y, 0, 0⟩
  a : p 6 = some ⟨0, a, 0, 0⟩
  b : p 7 = some ⟨0, b, 0, 0⟩
  r : p 8 = some ⟨0, r, 0, 0⟩
noncomputable def cfgA (k : Int) (sg : List UInt8) (err : Int) (ax : Plan → Prop) (axm : ∀ p q : Plan, p.le q → ax p → ax q) : Cfg := ⟨4, 4, [], orcA k sg err, orcA_local k sg err, ax, axm⟩
noncomputable def heapA : Tree AObj := Tree.leaf.set 0 (some (.row opsCells 179 1))
/-- the question of the evaluator -/
def AskA (k o : Int) (sg : List UInt8) (err : Int) : Prop := ∀ ax axm, saysTrue (evCall Tryz.prog (cfgA k sg err ax axm) 100000 3 [.int .i64 k, .int .i64 o, .chan (some 4), .chan (some 5)] heapA 9) = true
def AskC (k res : Int) : Prop := retOf (evCall Tryz.prog (cfgT 5) 10000 46 margs (rowsT [shapes, funcs res, locals_ k] 0 .leaf) 5) = some (.int .i64 0)
end Go.Proofs.YtdfeelmphlellaaGreatDoor
