/- The law CoreShifts: what the evaluator is told of the functions over words, and that its answers on tokens are the law's answers for all words. -/
import Derived.Test.YtdfeelmphlellaaGreatDoorNe
namespace Go.Proofs.YtdfeelmphlellaaGreatDoor
open Go.RowKit
open Ev
set_option linter.unusedSimpArgs false
set_option linter.unusedVariables false

def tWrapS (k : Int) (eq : Bool) (args : List Value) : M AObj Value := match args with
  | [.int .i64 kk, .chan (some i)] => if kk = k then (if i = 4 then M.pure (.chan (some 6)) else if i = 5 then M.pure (.chan (some (if eq then 6 else 7))) else M.fail) else M.fail
  | _ => M.fail
def tShift (k : Int) (sg : List UInt8) (err : Int) (tb : Nat) (args : List Value) : M AObj Value := match args with
  | [.int .i64 kk, .string s, .chan (some i), .int .i64 k2, .chan (some j)] => if kk = k ∧ s = ⟨sg.toArray⟩ ∧ i = 6 ∧ k2 = k ∧ j = tb then M.pure (.tuple #[.chan (some 8), .int .i64 err]) else M.fail
  | _ => M.fail
def tLess (k : Int) (less : Bool) (tb : Nat) (args : List Value) : M AObj Value := match args with
  | [.int .i64 kk, .chan (some i), .chan (some j)] => if kk = k ∧ i = 6 ∧ j = tb then M.pure (.tuple #[.bool less, .int .i64 0]) else M.fail
  | _ => M.fail
def tOf (k : Int) (na nb : Bool) (args : List Value) : M AObj Value := match args with
  | [.int .i64 kk, .chan (some i)] => if kk = k then (if i = 6 then M.pure (.agg #[.bool na, .chan (some 9)]) else if i = 7 then M.pure (.agg #[.bool nb, .chan (some 10)]) else M.fail) else M.fail
  | _ => M.fail
def tBelow (na nb less : Bool) (tf : Nat) (args : List Value) : M AObj Value := match args with
  | [.agg x, .agg y] => match x.toList with
    | [.bool n1, .chan (some i)] => match y.toList with
      | [.bool n2, .chan (some j)] => if n1 = na ∧ i = 9 ∧ n2 = nb ∧ j = tf then M.pure (.bool less) else M.fail
      | _ => M.fail
    | _ => M.fail
  | _ => M.fail
/-- a module's check: its second function's result says which module it is -/
noncomputable def tCheck (k : Int) (args : List Value) : M AObj Value := match args with
  | [.agg m] => match m.toList with
    | [_, .slice (some ⟨b, 0, none⟩) 2 2] => M.bind (rdRow b) fun (r : List Value × TypeId × Nat) => match r.1.drop 8 with
      | .int .i64 res :: _ => if res = 1 then toldPlain [shapes, funcs 1, locals_ k] 5 margs (.int .i64 0) args else toldPlain [shapes, funcs k, locals_ k] 5 margs (.int .i64 0) args
      | _ => M.fail
    | _ => M.fail
  | _ => M.fail
theorem local_tWrapS (k : Int) (eq : Bool) (args : List Value) : M.Local (tWrapS k eq args) := by
  unfold tWrapS
  repeat' split
  all_goals first | exact M.local_pure _ | exact M.local_fail
theorem local_tShift (k : Int) (sg : List UInt8) (err : Int) (tb : Nat) (args : List Value) : M.Local (tShift k sg err tb args) := by
  unfold tShift
  repeat' split
  all_goals first | exact M.local_pure _ | exact M.local_fail
theorem local_tLess (k : Int) (less : Bool) (tb : Nat) (args : List Value) : M.Local (tLess k less tb args) := by
  unfold tLess
  repeat' split
  all_goals first | exact M.local_pure _ | exact M.local_fail
theorem local_tOf (k : Int) (na nb : Bool) (args : List Value) : M.Local (tOf k na nb args) := by
  unfold tOf
  repeat' split
  all_goals first | exact M.local_pure _ | exact M.local_fail
theorem local_tBelow (na nb less : Bool) (tf : Nat) (args : List Value) : M.Local (tBelow na nb less tf args) := by
  unfold tBelow
  repeat' split
  all_goals first | exact M.local_pure _ | exact M.local_fail
theorem local_tCheck (k : Int) (args : List Value) : M.Local (tCheck k args) := by
  unfold tCheck
  split
  · split
    · refine M.local_bind (local_rdRow _) fun r => ?_
      split
      · split
        · exact local_toldPlain _ _ _ _ _
        · exact local_toldPlain _ _ _ _ _
      · exact M.local_fail
    · exact M.local_fail
  · exact M.local_fail
inductive TellS where
  | yes
  | wrap
  | is
  | shift
  | less
  | of_
  | below
  | measure
  | check
  | none
def tellS (g : FuncId) : TellS := match Nat.beq g 5 with
  | true => .yes
  | false => match Nat.beq g 7 with
    | true => .wrap
    | false => match Nat.beq g 18 with
      | true => .is
      | false => match Nat.beq g 85 with
        | true => .shift
        | false => match Nat.beq g 12 with
          | true => .shift
          | false => match Nat.beq g 86 with
            | true => .less
            | false => match Nat.beq g 14 with
              | true => .of_
              | false => match Nat.beq g 13 with
                | true => .below
                | false => match Nat.beq g 45 with
                  | true => .measure
                  | false => match Nat.beq g 46 with
                    | true => .check
                    | false => .none
def TellSOK (g : FuncId) : TellS → Prop
  | .yes => g = 5
  | .wrap => g = 7
  | .is => g = 18
  | .shift => g = 85 ∨ g = 12
  | .less => g = 86
  | .of_ => g = 14
  | .below => g = 13
  | .measure => g = 45
  | .check => g = 46
  | .none => True
theorem tellS_ok (g : FuncId) : TellSOK g (tellS g) := by
  unfold tellS
  cases h1 : Nat.beq g 5 with
  | true => exact Nat.eq_of_beq_eq_true h1
  | false =>
  cases h2 : Nat.beq g 7 with
  | true => exact Nat.eq_of_beq_eq_true h2
  | false =>
  cases h3 : Nat.beq g 18 with
  | true => exact Nat.eq_of_beq_eq_true h3
  | false =>
  cases h4 : Nat.beq g 85 with
  | true => exact .inl (Nat.eq_of_beq_eq_true h4)
  | false =>
  cases h5 : Nat.beq g 12 with
  | true => exact .inr (Nat.eq_of_beq_eq_true h5)
  | false =>
  cases h6 : Nat.beq g 86 with
  | true => exact Nat.eq_of_beq_eq_true h6
  | false =>
  cases h7 : Nat.beq g 14 with
  | true => exact Nat.eq_of_beq_eq_true h7
  | false =>
  cases h8 : Nat.beq g 13 with
  | true => exact Nat.eq_of_beq_eq_true h8
  | false =>
  cases h9 : Nat.beq g 45 with
  | true => exact Nat.eq_of_beq_eq_true h9
  | false =>
  cases h10 : Nat.beq g 46 with
  | true => exact Nat.eq_of_beq_eq_true h10
  | false => trivial
/-- which case it is: the shift's sign, its error; are the two words equal, is that known to be not so; is the first less; are they below nothing -/
structure Cs where
  sg : List UInt8
  err : Int
  eq : Bool
  ne : Bool
  less : Bool
  na : Bool
  nb : Bool
noncomputable def orcS (k : Int) (c : Cs) (g : FuncId) (args : List Value) : Option (M AObj Value) := match tellS g with
  | .yes => some (tYes args)
  | .wrap => some (tWrapS k c.eq args)
  | .is => some (tIs k args)
  | .shift => some (tShift k c.sg c.err (if c.eq then 6 else 7) args)
  | .less => some (tLess k c.less (if c.eq then 6 else 7) args)
  | .of_ => some (tOf k c.na c.nb args)
  | .below => some (tBelow c.na (if c.eq then c.na else c.nb) c.less (if c.eq then 9 else 10) args)
  | .measure => some (toldSlice [shapes] 2 margs ones 7 true args)
  | .check => some (tCheck k args)
  | .none => none
theorem orcS_local (k : Int) (c : Cs) : ∀ g args m, orcS k c g args = some m → M.Local m := by
  intro g args m e
  unfold orcS at e
  split at e <;> cases e
  · exact local_tYes _
  · exact local_tWrapS _ _ _
  · exact local_tIs _ _
  · exact local_tShift _ _ _ _ _
  · exact local_tLess _ _ _ _
  · exact local_tOf _ _ _ _
  · exact local_tBelow _ _ _ _ _
  · exact local_toldSlice _ _ _ _ _ _ _
  · exact local_tCheck _ _
structure AxS (x y a b r fa fb : Nat) (p : Plan) : Prop where
  x : p 4 = some ⟨0, x, 0, 0⟩
  y : p 5 = some ⟨0, y, 0, 0⟩
  a : p 6 = some ⟨0, a, 0, 0⟩
  b : p 7 = some ⟨0, b, 0, 0⟩
  r : p 8 = some ⟨0, r, 0, 0⟩
  fa : p 9 = some ⟨0, fa, 0, 0⟩
  fb : p 10 = some ⟨0, fb, 0, 0⟩
noncomputable def cfgS (k : Int) (c : Cs) (ax : Plan → Prop) (axm : ∀ p q : Plan, p.le q → ax p → ax q) : Cfg := ⟨4, 4, if c.ne then [(6, 7)] else [], orcS k c, orcS_local k c, ax, axm⟩
def AskS (k : Int) (up : Bool) (c : Cs) : Prop := ∀ ax axm, saysTrue (evCall Tryz.prog (cfgS k c ax axm) 100000 4 [.int .i64 k, .chan (some 4), .chan (some 5), .bool up] heapA 11) = true
end Go.Proofs.YtdfeelmphlellaaGreatDoor
