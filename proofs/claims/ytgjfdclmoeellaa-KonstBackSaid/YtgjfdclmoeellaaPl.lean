/- Plain lemmas for the reference of constants: sums, products and shifts, a doubling or a halving at a time. No program in sight. -/
import Derived.Test.YtgjfdclmoeellaaPk
namespace Go.Proofs.Ytgjfdclmoeellaa
open Go.RowKit
set_option linter.unusedSimpArgs false
set_option linter.unusedVariables false

theorem sum_same (neg : Bool) (a b : Int) (a0 : 0 ≤ a) (a1 : a ≤ 18446744073709551615) (b0 : 0 ≤ b) (b1 : b ≤ 18446744073709551615) :
    kMade neg (IntKind.u64.wrap (a + b)) (decide (IntKind.u64.wrap (a + b) < a)) = kres (kval neg a + kval neg b) := by
  have h := add_same neg a b a0 a1 b0 b1
  rw [IntKind.wrap_u64]
  have e : decide ((a + b) % 18446744073709551616 < a) = decide (0 < (a + b) / 18446744073709551616) := by rw [decide_eq_decide]; omega
  rw [e]; exact h
theorem mul_ref (s t : Bool) (a b : Int) (a0 : 0 ≤ a) (a1 : a ≤ 18446744073709551615) (b0 : 0 ≤ b) (b1 : b ≤ 18446744073709551615) :
    kMade (s != t) (IntKind.u64.wrap (a * b)) (decide (a ≠ 0) && (IntKind.u64.wrap (a * b) / a != b)) = kres (kval s a * kval t b) := by
  have h := mul_made s t a b a0 b0
  rw [← h, IntKind.wrap_u64]
  congr 1
  by_cases hz : a = 0
  · subst hz; simp
  · have ha : 0 < a := by omega
    have hp := Int.mul_nonneg a0 b0
    by_cases hl : a * b ≤ 18446744073709551615
    · have e1 : a * b % 18446744073709551616 = a * b := by omega
      have e2 : a * b / a = b := Int.mul_ediv_cancel_left _ hz
      have e3 : a * b / 18446744073709551616 = 0 := by omega
      rw [e1, e2, e3]; simp
    · have e1 : (a * b % 18446744073709551616 / a != b) = true := by
        rw [bne_iff_ne]; intro he
        have h3 := Int.mul_ediv_self_le (x := a * b % 18446744073709551616) (k := a) hz
        rw [he] at h3
        omega
      have e2 : decide (0 < a * b / 18446744073709551616) = true := by simp; omega
      rw [e1, e2]; simp [hz]
theorem quo_wrap (x y : Int) (x0 : 0 ≤ x) (hx : ¬ x = 0) : IntKind.u64.wrap ((IntKind.u64.wrap (x * y)).tdiv x) = IntKind.u64.wrap (x * y) / x := by
  have h0 : 0 ≤ IntKind.u64.wrap (x * y) ∧ IntKind.u64.wrap (x * y) ≤ 18446744073709551615 := by rw [IntKind.wrap_u64]; omega
  generalize IntKind.u64.wrap (x * y) = p at *
  have h1 : p / x ≤ p := Int.ediv_le_self _ h0.1
  have h2 : 0 ≤ p / x := Int.ediv_nonneg h0.1 x0
  rw [Int.tdiv_eq_ediv_of_nonneg h0.1, IntKind.wrap_u64]; omega
theorem rem_ref (a b : Int) (a0 : 0 ≤ a) (a1 : a ≤ 18446744073709551615) (b0 : 0 < b) : IntKind.u64.wrap (a - IntKind.u64.wrap (a / b * b)) = a % b := by
  have e1 := Int.emod_add_mul_ediv a b
  have hm : a / b * b = b * (a / b) := Int.mul_comm _ _
  have hp : 0 ≤ b * (a / b) := Int.mul_nonneg (Int.le_of_lt b0) (Int.ediv_nonneg a0 (Int.le_of_lt b0))
  have hr : 0 ≤ a % b := Int.emod_nonneg _ (by omega)
  rw [IntKind.wrap_u64, IntKind.wrap_u64, hm]; omega
/-! ### shifts -/
theorem dbl_val (neg : Bool) (a : Int) (j : Nat) : kval neg (a * 2 ^ j) = kval neg a * 2 ^ j := by unfold kval; cases neg <;> simp [Int.neg_mul]
/-- behind y doublings: the number, if none went over -/
theorem dbl_end (neg : Bool) (a y : Int) (j : Nat) (a0 : 0 ≤ a) (y0 : 0 ≤ y) (hj : j = min y.toNat 70) (h : a * 2 ^ j ≤ 18446744073709551615) : kMade neg (a * 2 ^ j) false = kres (kval neg a * 2 ^ y.toNat) := by
  have hp : (0 : Int) < 2 ^ j := Int.pow_pos (by decide)
  by_cases hy : y.toNat ≤ 70
  · have e : j = y.toNat := by omega
    rw [← e]; exact kMade_eq neg _ _ (Int.mul_nonneg a0 (Int.le_of_lt hp)) h (dbl_val neg a j)
  · have e : j = 70 := by omega
    have hz : a = 0 := by
      subst e
      have e2 : (2 : Int) ^ 70 = 1180591620717411303424 := by decide
      omega
    subst hz
    have e3 : kval neg 0 = 0 := by unfold kval; split <;> rfl
    rw [e3, Int.zero_mul, Int.zero_mul]; exact kMade_eq neg 0 0 (by decide) (by decide) e3
/-- the doubling that goes over -/
theorem dbl_over (neg : Bool) (a y : Int) (j : Nat) (a0 : 0 ≤ a) (hj : (j : Int) < y) (h1 : 9223372036854775808 ≤ a * 2 ^ j) : kres (kval neg a * 2 ^ y.toNat) = (false, 0, 10) := by
  obtain ⟨Y, rfl⟩ := Int.eq_ofNat_of_zero_le (show 0 ≤ y by omega)
  rw [Int.toNat_natCast]
  have e : (2 : Int) ^ Y = 2 ^ j * 2 * 2 ^ (Y - j - 1) := by
    rw [← Int.pow_succ, ← Int.pow_add]; congr 1; omega
  have h2 : (1 : Int) ≤ 2 ^ (Y - j - 1) := Int.pow_pos (by decide)
  rw [← dbl_val, e, ← Int.mul_assoc, ← Int.mul_assoc]
  have h3 := Int.mul_le_mul (show (18446744073709551616 : Int) ≤ a * 2 ^ j * 2 by omega) h2 (by decide) (by omega)
  unfold kres kval
  rw [if_neg]; cases neg <;> simp <;> omega
/-- a halving, downwards -/
def halfd (neg : Bool) (x : Int) : Int := if neg then x / 2 + x % 2 else x / 2
def halves (neg : Bool) (a : Int) : Nat → Int
  | 0 => a
  | j + 1 => halfd neg (halves neg a j)
theorem halves_bd (neg : Bool) (a : Int) (a0 : 0 ≤ a) (a1 : a ≤ 18446744073709551615) : ∀ j, 0 ≤ halves neg a j ∧ halves neg a j ≤ 18446744073709551615
  | 0 => ⟨a0, a1⟩
  | j + 1 => by have := halves_bd neg a a0 a1 j; unfold halves halfd; split <;> omega
theorem halves_val (neg : Bool) (a : Int) : ∀ j, kval neg (halves neg a j) = kval neg a / 2 ^ j
  | 0 => by simp [halves]
  | j + 1 => by
    have ih := halves_val neg a j
    rw [Int.pow_succ, ← Int.ediv_ediv_of_nonneg (Int.le_of_lt (Int.pow_pos (by decide))), ← ih]
    show kval neg (halfd neg (halves neg a j)) = kval neg (halves neg a j) / 2
    generalize halves neg a j = x
    unfold halfd kval; cases neg <;> simp; omega
theorem halves_end (neg : Bool) (a y : Int) (j : Nat) (a0 : 0 ≤ a) (a1 : a ≤ 18446744073709551615) (y0 : 0 ≤ y) (hj : j = min y.toNat 70) : kMade neg (halves neg a j) false = kres (kval neg a / 2 ^ y.toNat) := by
  have b := halves_bd neg a a0 a1 j
  refine kMade_eq neg _ _ b.1 b.2 ?_
  rw [halves_val]
  by_cases hy : y.toNat ≤ 70
  · have e : j = y.toNat := by omega
    rw [e]
  · have e : j = 70 := by omega
    have hb : -18446744073709551616 ≤ kval neg a ∧ kval neg a < 18446744073709551616 := by unfold kval; cases neg <;> simp <;> omega
    have c1 := div_cap _ hb.1 hb.2 j
    have c2 := div_cap _ hb.1 hb.2 y.toNat
    have m : min j 64 = min y.toNat 64 := by omega
    rw [← c1, ← c2, m]
end Go.Proofs.Ytgjfdclmoeellaa
