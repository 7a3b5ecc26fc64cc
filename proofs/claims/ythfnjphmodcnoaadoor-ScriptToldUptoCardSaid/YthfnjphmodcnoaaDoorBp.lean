/- What script.Read answers, in plain Lean. No program in sight. -/
import Derived.Test.YthfnjphmodcnoaaDoorBo
import Derived.Test.YthfnjphmodcnoaaDoorAl
namespace Go.Proofs.YthfnjphmodcnoaaDoor
set_option linter.unusedSimpArgs false
set_option linter.unusedVariables false

structure RepQ where
  tr : List (List UInt8)
  k : Int
  v : Int
  st : Nat
  pk : Nat
def stepsL : List UInt8 := [115, 116, 101, 112, 115]
/-- the lines that have their end -/
def wholeP (L : List (List UInt8)) (en : Bool) : List (List UInt8) := if en then L else L.dropLast
/-- the second line behind the trace: the two numbers -/
def numsQ (y : List UInt8) : Option (Nat × Nat) := match splitP 32 y with
  | [a, b, c, d] => if a = stepsL ∧ c = kPicks then match numQ b mostP, numQ d mostP with
      | some s, some p => some (s, p)
      | _, _ => none
    else none
  | _ => none
/-- the report of some lines, or the number of the first line at fault -/
def readP (L : List (List UInt8)) (en : Bool) : Except Nat RepQ :=
  let tr := (wholeP L en).takeWhile toldP
  match (wholeP L en).drop tr.length with
  | [] => .error (tr.length + 1)
  | x :: r => match endQ x with
    | none => .error (tr.length + 1)
    | some (k, v) => match r with
      | [] => .error (tr.length + 2)
      | y :: _ => match numsQ y with
        | none => .error (tr.length + 2)
        | some (s, p) => if tr.length + 2 < L.length then .error (tr.length + 3) else .ok ⟨tr, k, v, s, p⟩
def readT (s : List UInt8) : Except (Nat × Nat) RepQ := if 65536 < s.length then .error (0, 6) else match readP (linesP s).1 (linesP s).2 with
  | .error l => .error (l, 5)
  | .ok q => .ok q
theorem numsQ_ok (b c : List UInt8) (a d : List UInt8) (y : List UInt8) (h : splitP 32 y = [a, b, c, d]) : numsQ y = if a = stepsL ∧ c = kPicks then (match numQ b mostP, numQ d mostP with | some s, some p => some (s, p) | _, _ => none) else none := by
  unfold numsQ; rw [h]
theorem numsQ_len (y : List UInt8) (h : (splitP 32 y).length ≠ 4) : numsQ y = none := by
  unfold numsQ
  split
  · rename_i e; rw [e] at h; simp at h
  · rfl
end Go.Proofs.YthfnjphmodcnoaaDoor
