/- Plain definitions for the layer of constants: what package konst and its reference compute, told by whole numbers. No program in sight. -/
import Derived.Test.YtgjfdclmoeellaaDoorPf
import Derived.Lib.Mul64
namespace Go.Proofs.YtgjfdclmoeellaaDoor
open Go.RowKit
set_option linter.unusedSimpArgs false
set_option linter.unusedVariables false

def kval (neg : Bool) (n : Int) : Int := if neg then -n else n
/-- is it a constant? -/
def sound (neg : Bool) (n : Int) : Bool := !neg || (decide (0 < n) && decide (n ≤ 9223372036854775808))
def kMade (neg : Bool) (n : Int) (over : Bool) : Bool × Int × Int :=
  if over || !(sound (neg && decide (0 < n)) n) then (false, 0, 10) else (neg && decide (0 < n), n, 0)
/-- a whole number as a constant, if it is one -/
def kres (v : Int) : Bool × Int × Int :=
  if -9223372036854775808 ≤ v ∧ v ≤ 18446744073709551615 then (decide (v < 0), if v < 0 then -v else v, 0) else (false, 0, 10)
theorem kMade_eq (neg : Bool) (n v : Int) (h0 : 0 ≤ n) (h1 : n ≤ 18446744073709551615) (h : kval neg n = v) : kMade neg n false = kres v := by
  unfold kMade kres sound; unfold kval at h
  cases neg
  · simp at h ⊢; subst h
    rw [if_pos (by omega), if_neg (by omega)]; simp; omega
  · simp at h ⊢
    by_cases hp : 0 < n
    · by_cases hb : n ≤ 9223372036854775808
      · rw [if_neg (by simp [hp, hb]), if_pos (by omega), if_pos (by omega)]; simp [hp]; omega
      · rw [if_pos (by simp [hp]; omega), if_neg (by omega)]
    · have : n = 0 := by omega
      subst this; subst h; simp
theorem kMade_over (neg : Bool) (n v : Int) (h : v < -9223372036854775808 ∨ 18446744073709551615 < v) : kMade neg n true = kres v := by
  unfold kMade kres; simp; intro h1; omega
def kFold (c : Nat) (xn : Bool) (x : Int) (yn : Bool) (y : Int) : Bool × Int × Int :=
  if c = 0 then (false, 0, 2) else if !(sound xn x) || !(sound yn y) then (false, 0, 1) else
  match c with
  | 1 => kres (kval xn x + kval yn y)
  | 2 => kres (kval xn x - kval yn y)
  | 3 => kres (kval xn x * kval yn y)
  | 4 => if y = 0 then (false, 0, 18) else kres ((kval xn x).tdiv (kval yn y))
  | 5 => if y = 0 then (false, 0, 18) else kres ((kval xn x).tmod (kval yn y))
  | 10 => if yn then (false, 0, 19) else kres (kval xn x * 2 ^ y.toNat)
  | 11 => if yn then (false, 0, 19) else kres (kval xn x / 2 ^ y.toNat)
  | 6 => if xn || yn then (false, 0, 10) else (false, bits .and .u64 x y, 0)
  | 7 => if xn || yn then (false, 0, 10) else (false, bits .or .u64 x y, 0)
  | 8 => if xn || yn then (false, 0, 10) else (false, bits .xor .u64 x y, 0)
  | _ => if xn || yn then (false, 0, 10) else (false, bits .andNot .u64 x y, 0)
def kUnary (c : Nat) (xn : Bool) (x : Int) : Bool × Int × Int :=
  if ¬ (c = 2 ∨ c = 8) then (false, 0, 2) else if !(sound xn x) then (false, 0, 1) else if c = 2 then kres (-(kval xn x)) else kres (-(kval xn x) - 1)
/-- a text's order: 1 to 6, 0 none -/
def cmpCode (s : ByteArray) : Nat :=
  if s.toList = [61, 61] then 1 else if s.toList = [33, 61] then 2 else if s.toList = [60] then 3 else if s.toList = [60, 61] then 4 else if s.toList = [62] then 5 else if s.toList = [62, 61] then 6 else 0
theorem cmpCode_cases (s : ByteArray) : s.toList = [61, 61] ∨ s.toList = [33, 61] ∨ s.toList = [60] ∨ s.toList = [60, 61] ∨ s.toList = [62] ∨ s.toList = [62, 61] ∨
    ((s.toList == [61, 61]) = false ∧ (s.toList == [33, 61]) = false ∧ (s.toList == [60]) = false ∧ (s.toList == [60, 61]) = false ∧ (s.toList == [62]) = false ∧ (s.toList == [62, 61]) = false) := by
  simp only [beq_eq_false_iff_ne]
  by_cases h1 : s.toList = [61, 61]
  · exact .inl h1
  by_cases h2 : s.toList = [33, 61]
  · exact .inr (.inl h2)
  by_cases h3 : s.toList = [60]
  · exact .inr (.inr (.inl h3))
  by_cases h4 : s.toList = [60, 61]
  · exact .inr (.inr (.inr (.inl h4)))
  by_cases h5 : s.toList = [62]
  · exact .inr (.inr (.inr (.inr (.inl h5))))
  by_cases h6 : s.toList = [62, 61]
  · exact .inr (.inr (.inr (.inr (.inr (.inl h6)))))
  exact .inr (.inr (.inr (.inr (.inr (.inr ⟨h1, h2, h3, h4, h5, h6⟩)))))
def kCmpErr (c : Nat) (xn : Bool) (x : Int) (yn : Bool) (y : Int) : Int := if c = 0 then 2 else if !(sound xn x) || !(sound yn y) then 1 else 0
def kCmp (c : Nat) (xn : Bool) (x : Int) (yn : Bool) (y : Int) : Bool :=
  if kCmpErr c xn x yn y = 0 then
    (match c with
    | 1 => decide (kval xn x = kval yn y)
    | 2 => !decide (kval xn x = kval yn y)
    | 3 => decide (kval xn x < kval yn y)
    | 4 => decide (kval xn x ≤ kval yn y)
    | 5 => decide (kval yn y < kval xn x)
    | _ => decide (kval yn y ≤ kval xn x))
  else false
/-! ### what the code's own arithmetic makes -/
theorem add_same (neg : Bool) (a b : Int) (a0 : 0 ≤ a) (a1 : a ≤ 18446744073709551615) (b0 : 0 ≤ b) (b1 : b ≤ 18446744073709551615) :
    kMade neg ((a + b) % 18446744073709551616) (decide (0 < (a + b) / 18446744073709551616)) = kres (kval neg a + kval neg b) := by
  by_cases h : a + b ≤ 18446744073709551615
  · have e : decide (0 < (a + b) / 18446744073709551616) = false := by simp; omega
    rw [e]; exact kMade_eq neg _ _ (by omega) (by omega) (by unfold kval; cases neg <;> simp <;> omega)
  · have e : decide (0 < (a + b) / 18446744073709551616) = true := by simp; omega
    rw [e]; exact kMade_over neg _ _ (by unfold kval; cases neg <;> simp <;> omega)
theorem mul_made (s t : Bool) (a b : Int) (a0 : 0 ≤ a) (b0 : 0 ≤ b) :
    kMade (s != t) (a * b % 18446744073709551616) (decide (0 < a * b / 18446744073709551616)) = kres (kval s a * kval t b) := by
  have hp := Int.mul_nonneg a0 b0
  have e : kval s a * kval t b = kval (s != t) (a * b) := by unfold kval; cases s <;> cases t <;> simp [Int.neg_mul, Int.mul_neg]
  rw [e]
  generalize a * b = p at *
  by_cases h : p ≤ 18446744073709551615
  · have e : decide (0 < p / 18446744073709551616) = false := by simp; omega
    rw [e]; exact kMade_eq _ _ _ (by omega) (by omega) (by unfold kval; cases (s != t) <;> simp <;> omega)
  · have e : decide (0 < p / 18446744073709551616) = true := by simp; omega
    rw [e]; exact kMade_over _ _ _ (by unfold kval; cases (s != t) <;> simp <;> omega)
theorem quo_made (s t : Bool) (a b : Int) (a0 : 0 ≤ a) (a1 : a ≤ 18446744073709551615) (b0 : 0 ≤ b) : kMade (s != t) (a / b) false = kres ((kval s a).tdiv (kval t b)) := by
  have h0 : 0 ≤ a / b := Int.ediv_nonneg a0 b0
  have h1 : a / b ≤ a := Int.ediv_le_self _ a0
  refine kMade_eq _ _ _ h0 (by omega) ?_
  rw [← Int.tdiv_eq_ediv_of_nonneg a0]
  unfold kval; cases s <;> cases t <;> simp [Int.neg_tdiv, Int.tdiv_neg]
theorem rem_made (s t : Bool) (a b : Int) (a0 : 0 ≤ a) (a1 : a ≤ 18446744073709551615) (b0 : 0 < b) : kMade s (a % b) false = kres ((kval s a).tmod (kval t b)) := by
  have h0 : 0 ≤ a % b := Int.emod_nonneg _ (by omega)
  have h1 : a % b ≤ a := by
    have := Int.emod_add_mul_ediv a b
    have := Int.mul_nonneg (Int.le_of_lt b0) (Int.ediv_nonneg a0 (Int.le_of_lt b0)); omega
  refine kMade_eq _ _ _ h0 (by omega) ?_
  rw [← Int.tmod_eq_emod_of_nonneg a0]
  unfold kval; cases s <;> cases t <;> simp [Int.neg_tmod, Int.tmod_neg]
theorem shr_pos (a : Int) (b : Nat) (a0 : 0 ≤ a) (a1 : a ≤ 18446744073709551615) : kMade false (a / 2 ^ b) false = kres (kval false a / 2 ^ b) := by
  have hp : (0 : Int) < 2 ^ b := Int.pow_pos (by decide)
  have h0 : 0 ≤ a / 2 ^ b := Int.ediv_nonneg a0 (Int.le_of_lt hp)
  have h1 : a / 2 ^ b ≤ a := Int.ediv_le_self _ a0
  exact kMade_eq _ _ _ h0 (by omega) rfl
theorem neg_div (a m : Int) (hm : 0 < m) : (-a) / m = -((a - 1) / m + 1) := by
  have h1 := Int.emod_add_mul_ediv (a - 1) m
  have h2 := Int.emod_nonneg (a - 1) (show m ≠ 0 by omega)
  have h3 := Int.emod_lt_of_pos (a - 1) hm
  have e : -a = (m - 1 - (a - 1) % m) + (-((a - 1) / m + 1)) * m := by
    rw [Int.neg_mul, Int.add_mul, Int.one_mul, Int.mul_comm]; omega
  rw [e, Int.add_mul_ediv_right _ _ (by omega), Int.ediv_eq_zero_of_lt (by omega) (by omega)]; omega
theorem shr_neg (a : Int) (b : Nat) (a0 : 0 < a) (a1 : a ≤ 18446744073709551615) : kMade true ((a - 1) / 2 ^ b + 1) false = kres (kval true a / 2 ^ b) := by
  have hp : (0 : Int) < 2 ^ b := Int.pow_pos (by decide)
  have h0 : 0 ≤ (a - 1) / 2 ^ b := Int.ediv_nonneg (by omega) (Int.le_of_lt hp)
  have h1 : (a - 1) / 2 ^ b ≤ a - 1 := Int.ediv_le_self _ (by omega)
  refine kMade_eq _ _ _ (by omega) (by omega) ?_
  unfold kval; simp only [if_true]; rw [neg_div a _ hp]
theorem kval_pos {neg : Bool} {n : Int} (h : sound neg n = true) : neg = true → 0 < n ∧ n ≤ 9223372036854775808 := by
  intro hn; subst hn; simpa [sound] using h
theorem kres_zero : kres 0 = (false, 0, 0) := by decide
theorem shl_made (neg : Bool) (a b : Int) (ha : 0 < a) (a1 : a ≤ 18446744073709551615) (b0 : 0 ≤ b) :
    kMade neg (IntKind.u64.wrap (a * 2 ^ min b.toNat 64)) (decide (64 ≤ b) || IntKind.u64.wrap (a * 2 ^ min b.toNat 64) / 2 ^ min b.toNat 64 != a) = kres (kval neg a * 2 ^ b.toNat) := by
  obtain ⟨j, rfl⟩ := Int.eq_ofNat_of_zero_le b0
  rw [Int.toNat_natCast, IntKind.wrap_u64]
  have hp : (0 : Int) < 2 ^ j := Int.pow_pos (by decide)
  have hv : kval neg a * 2 ^ j = kval neg (a * 2 ^ j) := by unfold kval; cases neg <;> simp [Int.neg_mul]
  rw [hv]
  by_cases h : j < 64
  · have e : decide (64 ≤ (j : Int)) = false := by simp; omega
    rw [e, Bool.false_or, Nat.min_eq_left (by omega)]
    have hc : a * 2 ^ j / 2 ^ j = a := Int.mul_ediv_cancel _ (by omega)
    have hq0 : 0 < a * 2 ^ j := Int.mul_pos ha hp
    generalize hP : a * 2 ^ j = p at *
    by_cases hl : p ≤ 18446744073709551615
    · have e1 : p % 18446744073709551616 = p := by omega
      rw [e1, hc]
      simp only [bne_self_eq_false]
      exact kMade_eq neg _ _ (by omega) hl rfl
    · have e2 : (p % 18446744073709551616 / 2 ^ j != a) = true := by
        rw [bne_iff_ne]
        intro he
        have h1 : p % 18446744073709551616 < p := by omega
        have h2 : p / 2 ^ j ≤ p % 18446744073709551616 / 2 ^ j := by rw [he, hc]; omega
        have h3 := Int.mul_ediv_self_le (x := p % 18446744073709551616) (k := 2 ^ j) (by omega)
        rw [he, Int.mul_comm, hP] at h3
        omega
      rw [e2]
      exact kMade_over neg _ _ (by unfold kval; cases neg <;> simp <;> omega)
  · have e : decide (64 ≤ (j : Int)) = true := by simp; omega
    rw [e, Bool.true_or]
    have e3 : (2 : Int) ^ j = 18446744073709551616 * 2 ^ (j - 64) := by
      have e4 : (2 : Int) ^ 64 = 18446744073709551616 := by decide
      rw [← e4, ← Int.pow_add]; congr 1; omega
    have h5 : (1 : Int) ≤ 2 ^ (j - 64) := Int.pow_pos (by decide)
    have h6 : (18446744073709551616 : Int) ≤ a * 2 ^ j := by
      have h7 := Int.mul_le_mul (show (1 : Int) ≤ a by omega) (show (18446744073709551616 : Int) ≤ 2 ^ j by omega) (by decide) (by omega)
      omega
    exact kMade_over neg _ _ (by unfold kval; cases neg <;> simp <;> omega)
theorem and_mask (z : Int) (z0 : 0 ≤ z) (z1 : z ≤ 18446744073709551615) : bits .and .u64 z 4294967295 = z % 4294967296 := by
  obtain ⟨Z, rfl⟩ := Int.eq_ofNat_of_zero_le z0
  have h := bits_and_u64_nat Z 4294967295 (by omega) (by decide)
  have e : ((4294967295 : Nat) : Int) = 4294967295 := rfl
  rw [e] at h
  rw [h, show (4294967295 : Nat) = 2 ^ 32 - 1 by decide, Nat.and_two_pow_sub_one_eq_mod]
  omega
end Go.Proofs.YtgjfdclmoeellaaDoor
