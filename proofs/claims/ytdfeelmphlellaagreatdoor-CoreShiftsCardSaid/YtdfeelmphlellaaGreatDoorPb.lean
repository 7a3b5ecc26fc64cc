/- Plain definitions for the reference of the word layer: what its functions compute. -/
import Derived.Test.YtdfeelmphlellaaGreatDoorPa
namespace Go.Proofs.YtdfeelmphlellaaGreatDoor
open Go.RowKit
set_option linter.unusedSimpArgs false
set_option linter.unusedVariables false

/-- the reference's Wrap: what it has after so many bits, and the last bit -/
def rw (k n : Int) : Nat → Int × Int
  | 0 => (0, 0)
  | i + 1 =>
    let b := if (i : Int) < bitsW k then (n / 2 ^ i).tmod 2 else if sgnW k then (rw k n i).2 else 0
    (IntKind.u64.wrap ((rw k n i).1 + IntKind.u64.wrap (b * 2 ^ i)), b)
def rwrap (k n : Int) : Int := (rw k n 64).1
/-- the number's sign and size -/
def ofNeg (k n : Int) : Bool := sgnW k && decide (9223372036854775808 ≤ n)
def ofN (k n : Int) : Int := if ofNeg k n then IntKind.u64.wrap (-n) else n
theorem ret_agg2 {a b c d : Value} (h : a = c) (h2 : b = d) : Ending.returned (.agg #[a, b]) = .returned (.agg #[c, d]) := by rw [h, h2]
theorem v_agg2 {a b c d : Value} (h : a = c) (h2 : b = d) : Value.agg #[a, b] = .agg #[c, d] := by rw [h, h2]
/-- has a kind this number? -/
def topW (k : Int) : Int := 2 ^ (bitsW k - 1).toNat
def rIn (k : Int) (neg : Bool) (m : Int) : Bool :=
  if neg then sgnW k && decide (m ≤ topW k) else if sgnW k then decide (m < topW k) else decide (m ≤ 2 * topW k - 1)
def rIs (k n : Int) : Bool := isW k && rwrap k n == n
def rBad (k : Int) (xs : List Int) : Int := if isW k then (if xs.all (rIs k) then 0 else 1) else 2
/-- the reference's bitwise operators, so many bits -/
def rbit (c : Nat) (x y : Bool) : Bool :=
  match c with
  | 6 => x && y
  | 7 => x || y
  | 8 => x != y
  | 9 => x && !y
  | _ => false
def rbw (c : Nat) (a b : Int) : Nat → Int
  | 0 => 0
  | i + 1 => if rbit c ((a / 2 ^ i).tmod 2 == 1) ((b / 2 ^ i).tmod 2 == 1) then IntKind.u64.wrap (rbw c a b i + IntKind.u64.wrap (2 ^ i)) else rbw c a b i

def rBelow (xn : Bool) (x : Int) (yn : Bool) (y : Int) : Bool := if xn != yn then xn else if xn then decide (y < x) else decide (x < y)

def rArithErr (k : Int) (c : Nat) (a b : Int) : Int :=
  if c = 0 ∨ 10 ≤ c then 2 else if rBad k [a, b] = 0 then (if (c = 4 ∨ c = 5) ∧ ofN k b = 0 then 18 else 0) else rBad k [a, b]
/-- a size with a sign, as a word -/
def sgnd (neg : Bool) (n : Int) : Int := if neg then IntKind.u64.wrap (-n) else n
def rRaw (k : Int) (c : Nat) (a b : Int) : Int :=
  match c with
  | 1 => IntKind.u64.wrap (a + b)
  | 2 => IntKind.u64.wrap (a + IntKind.u64.wrap (-b))
  | 3 => sgnd (!ofNeg k a == ofNeg k b) (IntKind.u64.wrap (ofN k a * ofN k b))
  | 4 => sgnd (!ofNeg k a == ofNeg k b) (ofN k a / ofN k b)
  | 5 => sgnd (ofNeg k a) (IntKind.u64.wrap (ofN k a - IntKind.u64.wrap (ofN k a / ofN k b * ofN k b)))
  | c => rbw c a b 64
def rArith (k : Int) (c : Nat) (a b : Int) : Int := resW (rArithErr k c a b) (rwrap k (rRaw k c a b))
theorem rbw_bd (c : Nat) (a b : Int) : ∀ i, 0 ≤ rbw c a b i ∧ rbw c a b i ≤ 18446744073709551615
  | 0 => by simp [rbw]
  | i + 1 => by
    have ih := rbw_bd c a b i
    unfold rbw
    split
    · rw [IntKind.wrap_u64]; omega
    · exact ih

/-- the reference's shift, so many bits -/
def rstep (k : Int) (c : Nat) (a : Int) : Int := if c = 10 then rwrap k (IntKind.u64.wrap (a + a)) else if ofNeg k a then IntKind.u64.wrap (a / 2 + 9223372036854775808) else a / 2
def rsh (k : Int) (c : Nat) (a : Int) : Nat → Int
  | 0 => a
  | i + 1 => rstep k c (rsh k c a i)
def rShiftErr (k : Int) (c : Nat) (a by' n : Int) : Int :=
  if (c = 10 ∨ c = 11) ∧ isW k ∧ isW by' then (if rIs k a && rIs by' n then (if ofNeg by' n then 19 else 0) else 1) else 2
def rShift (k : Int) (c : Nat) (a by' n : Int) : Int := resW (rShiftErr k c a by' n) (rsh k c a (min n.toNat 64))
end Go.Proofs.YtdfeelmphlellaaGreatDoor
