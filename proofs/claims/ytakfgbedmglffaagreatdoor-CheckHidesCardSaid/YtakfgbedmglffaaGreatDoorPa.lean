/- Plain definitions for the word layer: what the functions of package word and of its reference compute. -/
import Derived.WalkKit
namespace Go.Proofs.YtakfgbedmglffaaGreatDoor
open Go.RowKit
set_option linter.unusedSimpArgs false
set_option linter.unusedVariables false

theorem ret_u64 {k : IntKind} {a b : Int} (h : a = b) : Ending.returned (.int k a) = .returned (.int k b) := by rw [h]
theorem ret_bool {a b : Bool} (h : a = b) : Ending.returned (.bool a) = .returned (.bool b) := by rw [h]

theorem ret_two {a b c d : Value} (h : a = c) (h2 : b = d) : Ending.returned (.tuple #[a, b]) = .returned (.tuple #[c, d]) := by rw [h, h2]
theorem ret_three {a b c d f g : Value} (h : a = d) (h2 : b = f) (h3 : c = g) : Ending.returned (.tuple #[a, b, c]) = .returned (.tuple #[d, f, g]) := by rw [h, h2, h3]
theorem v_int {k : IntKind} {a b : Int} (h : a = b) : Value.int k a = .int k b := by rw [h]
theorem v_bool {a b : Bool} (h : a = b) : Value.bool a = .bool b := by rw [h]
/-- is it a kind -/
def isW (k : Int) : Bool := decide (2 ≤ k) && decide (k ≤ 7)
def bitsW (k : Int) : Int := if k = 2 ∨ k = 3 then 8 else if k = 4 ∨ k = 5 then 32 else if k = 6 ∨ k = 7 then 64 else 0
def errW (k : Int) : Int := if isW k then 0 else 2
def sgnW (k : Int) : Bool := isW k && decide (k % 2 = 0)
/-- the number of a kind that has these lowest bits -/
def wrapW (k n : Int) : Int :=
  if k = 2 then ((n + 128) % 256 - 128) % 18446744073709551616
  else if k = 3 then n % 256
  else if k = 4 then ((n + 2147483648) % 4294967296 - 2147483648) % 18446744073709551616
  else if k = 5 then n % 4294967296
  else n
def inW (k n : Int) : Bool := isW k && wrapW k n == n
def checkW (k : Int) (xs : List Int) : Int := if isW k then (if xs.all (inW k) then 0 else 1) else 2

/-- the number that a word of a kind is -/
def sval (k n : Int) : Int := if sgnW k then wrap64 n else n
def resW (e n : Int) : Int := if e = 0 then n else 0
/-- a text's operator: 1 to 9 as Arith has them, 10 and 11 the shifts, 0 none -/
def opCode (s : ByteArray) : Nat :=
  if s.toList = [43] then 1 else if s.toList = [45] then 2 else if s.toList = [42] then 3 else if s.toList = [47] then 4 else if s.toList = [37] then 5
  else if s.toList = [38] then 6 else if s.toList = [124] then 7 else if s.toList = [94] then 8 else if s.toList = [38, 94] then 9
  else if s.toList = [60, 60] then 10 else if s.toList = [62, 62] then 11 else 0
theorem opCode_cases (s : ByteArray) : s.toList = [43] ∨ s.toList = [45] ∨ s.toList = [42] ∨ s.toList = [38] ∨ s.toList = [124] ∨ s.toList = [94] ∨ s.toList = [38, 94] ∨ s.toList = [47] ∨ s.toList = [37] ∨ s.toList = [60, 60] ∨ s.toList = [62, 62] ∨
    ((s.toList == [43]) = false ∧ (s.toList == [45]) = false ∧ (s.toList == [42]) = false ∧ (s.toList == [38]) = false ∧ (s.toList == [124]) = false ∧ (s.toList == [94]) = false ∧ (s.toList == [38, 94]) = false ∧ (s.toList == [47]) = false ∧ (s.toList == [37]) = false ∧ (s.toList == [60, 60]) = false ∧ (s.toList == [62, 62]) = false) := by
  simp only [beq_eq_false_iff_ne]
  by_cases h1 : s.toList = [43]
  · exact .inl h1
  by_cases h2 : s.toList = [45]
  · exact .inr (.inl h2)
  by_cases h3 : s.toList = [42]
  · exact .inr (.inr (.inl h3))
  by_cases h4 : s.toList = [38]
  · exact .inr (.inr (.inr (.inl h4)))
  by_cases h5 : s.toList = [124]
  · exact .inr (.inr (.inr (.inr (.inl h5))))
  by_cases h6 : s.toList = [94]
  · exact .inr (.inr (.inr (.inr (.inr (.inl h6)))))
  by_cases h7 : s.toList = [38, 94]
  · exact .inr (.inr (.inr (.inr (.inr (.inr (.inl h7))))))
  by_cases h8 : s.toList = [47]
  · exact .inr (.inr (.inr (.inr (.inr (.inr (.inr (.inl h8)))))))
  by_cases h9 : s.toList = [37]
  · exact .inr (.inr (.inr (.inr (.inr (.inr (.inr (.inr (.inl h9))))))))
  by_cases h10 : s.toList = [60, 60]
  · exact .inr (.inr (.inr (.inr (.inr (.inr (.inr (.inr (.inr (.inl h10)))))))))
  by_cases h11 : s.toList = [62, 62]
  · exact .inr (.inr (.inr (.inr (.inr (.inr (.inr (.inr (.inr (.inr (.inl h11))))))))))
  exact .inr (.inr (.inr (.inr (.inr (.inr (.inr (.inr (.inr (.inr (.inr ⟨h1, h2, h3, h4, h5, h6, h7, h8, h9, h10, h11⟩))))))))))
/-- what an operator makes of two words, before it is wrapped -/
def rawW (k : Int) (c : Nat) (a b : Int) : Int :=
  match c with
  | 1 => (a + b) % 18446744073709551616
  | 2 => (a - b) % 18446744073709551616
  | 3 => (a * b) % 18446744073709551616
  | 4 => ((sval k a).tdiv (sval k b)) % 18446744073709551616
  | 5 => ((sval k a).tmod (sval k b)) % 18446744073709551616
  | 6 => bits .and .u64 a b
  | 7 => bits .or .u64 a b
  | 8 => bits .xor .u64 a b
  | 9 => bits .andNot .u64 a b
  | _ => 0
def arithErr (k : Int) (c : Nat) (a b : Int) : Int :=
  if c = 0 ∨ 10 ≤ c then 2 else if checkW k [a, b] = 0 then (if (c = 4 ∨ c = 5) ∧ b = 0 then 18 else 0) else checkW k [a, b]
def arithW (k : Int) (c : Nat) (a b : Int) : Int := resW (arithErr k c a b) (wrapW k (rawW k c a b))

def convErr (f t n : Int) : Int := if isW f && isW t then checkW f [n] else 2
/-- what a shift makes of a word, before it is wrapped -/
def shiftRaw (k : Int) (c : Nat) (a n : Int) : Int :=
  if c = 10 then (a * 2 ^ (min n.toNat 64)) % 18446744073709551616 else (sval k a / 2 ^ (min n.toNat 64)) % 18446744073709551616
def shiftErr (k : Int) (c : Nat) (a by' n : Int) : Int :=
  if (c = 10 ∨ c = 11) ∧ isW k ∧ isW by' then (if inW k a && inW by' n then (if sval by' n < 0 then 19 else 0) else 1) else 2
def lessW (k a b : Int) : Bool := decide (checkW k [a, b] = 0) && decide (sval k a < sval k b)

theorem shr_mod (a : Int) (m : Nat) (h0 : 0 ≤ a) (h1 : a ≤ 18446744073709551615) : a / 2 ^ m % 18446744073709551616 = a / 2 ^ m := by
  have h2 : a / 2 ^ m ≤ a := Int.ediv_le_self _ h0
  have h3 : 0 ≤ a / 2 ^ m := Int.ediv_nonneg h0 (Int.le_of_lt (Int.pow_pos (by decide)))
  omega

end Go.Proofs.YtakfgbedmglffaaGreatDoor
