/- Contracts of the reference of the word layer at the signed kind of 64 bits: Whole, Bits, Signed, top, In, Of, Word, Const. -/
import Derived.Test.YthfnjphmodcnoaaDoorBc
import Derived.Test.YthfnjphmodcnoaaDoorH
namespace Go.Proofs.YthfnjphmodcnoaaDoor
open Go.RowKit
set_option linter.unusedSimpArgs false
set_option linter.unusedVariables false

theorem ret_bool {a b : Bool} (h : a = b) : Ending.returned (.bool a) = .returned (.bool b) := by rw [h]
theorem ret_u64 {k : IntKind} {a b : Int} (h : a = b) : Ending.returned (.int k a) = .returned (.int k b) := by rw [h]

theorem whole6 (w : World) : Calls Tryd.prog 74 #[.int .i64 6] w fun e w' => e = .returned (.bool true) ∧ w = w' := by
  go_enter Tryd.func74, Tryd.ntmps74
  go_wp2
  all_goals (go_ret; exact ⟨rfl, rfl⟩)
theorem bits6 (w : World) : Calls Tryd.prog 85 #[.int .i64 6] w fun e w' => e = .returned (.int .i64 64) ∧ w = w' := by
  go_enter Tryd.func85, Tryd.ntmps85
  go_wp2_with (go_at_call 74; refine (whole6 _).mono ?_; rintro e w' ⟨rfl, rfl⟩)
  all_goals (go_ret; exact ⟨rfl, rfl⟩)
theorem sgn6 (w : World) : Calls Tryd.prog 58 #[.int .i64 6] w fun e w' => e = .returned (.bool true) ∧ w = w' := by
  go_enter Tryd.func58, Tryd.ntmps58
  go_wp2_with (go_at_call 74; refine (whole6 _).mono ?_; rintro e w' ⟨rfl, rfl⟩)
  all_goals (go_ret; exact ⟨rfl, rfl⟩)
theorem top6 (w : World) : Calls Tryd.prog 69 #[.int .i64 6] w fun e w' => e = .returned (.int .u64 9223372036854775808) ∧ w = w' := by
  go_enter Tryd.func69, Tryd.ntmps69
  go_wp2_with (first | (go_at_call 85; refine (bits6 _).mono ?_; rintro e w' ⟨rfl, rfl⟩))
  go_ret
  exact ⟨rfl, rfl⟩
def in6 (neg : Bool) (m : Nat) : Bool := if neg then decide (m ≤ 9223372036854775808) else decide (m < 9223372036854775808)
theorem rin6_c (m : Nat) (neg : Bool) (w : World) (hm2 : m ≤ 18446744073709551615) : Calls Tryd.prog 53 #[.int .i64 6, .agg #[.bool neg, .int .u64 (m : Int)]] w fun e w' => e = .returned (.bool (in6 neg m)) ∧ Below w.heap.size w w' := by
  cases neg
  · by_cases h : m < 9223372036854775808
    · have h1 : decide ((m : Int) < 9223372036854775808) = true := by rw [decide_eq_true_eq]; omega
      have h2 : decide (m < 9223372036854775808) = true := by rw [decide_eq_true_eq]; omega
      go_enter Tryd.func53, Tryd.ntmps53
      go_wp2_with (first | (go_at_call 58; refine (sgn6 _).mono ?_; rintro e w' ⟨rfl, rfl⟩) | (go_at_call 69; refine (top6 _).mono ?_; rintro e w' ⟨rfl, rfl⟩))
      go_quiet (first | (go_at_call 58; exact quiet_eq (sgn6 _)) | (go_at_call 69; exact quiet_eq (top6 _)))
      go_wp2
      go_ret
      exact ⟨ret_bool (by simp [in6, h1, h2]), by first | exact below_dn ((Below.refl _ _).alloc (Nat.le_refl _) _) _ | exact (Below.refl _ _).alloc (Nat.le_refl _) _⟩
    · have h1 : decide ((m : Int) < 9223372036854775808) = false := by rw [decide_eq_false_iff_not]; omega
      have h2 : decide (m < 9223372036854775808) = false := by rw [decide_eq_false_iff_not]; omega
      go_enter Tryd.func53, Tryd.ntmps53
      go_wp2_with (first | (go_at_call 58; refine (sgn6 _).mono ?_; rintro e w' ⟨rfl, rfl⟩) | (go_at_call 69; refine (top6 _).mono ?_; rintro e w' ⟨rfl, rfl⟩))
      go_quiet (first | (go_at_call 58; exact quiet_eq (sgn6 _)) | (go_at_call 69; exact quiet_eq (top6 _)))
      go_wp2
      go_ret
      exact ⟨ret_bool (by simp [in6, h1, h2]), by first | exact below_dn ((Below.refl _ _).alloc (Nat.le_refl _) _) _ | exact (Below.refl _ _).alloc (Nat.le_refl _) _⟩
  · by_cases h : m ≤ 9223372036854775808
    · have h1 : decide ((m : Int) ≤ 9223372036854775808) = true := by rw [decide_eq_true_eq]; omega
      have h2 : decide (m ≤ 9223372036854775808) = true := by rw [decide_eq_true_eq]; omega
      go_enter Tryd.func53, Tryd.ntmps53
      go_wp2_with (first | (go_at_call 58; refine (sgn6 _).mono ?_; rintro e w' ⟨rfl, rfl⟩) | (go_at_call 69; refine (top6 _).mono ?_; rintro e w' ⟨rfl, rfl⟩))
      go_quiet (first | (go_at_call 58; exact quiet_eq (sgn6 _)) | (go_at_call 69; exact quiet_eq (top6 _)))
      go_wp2
      go_ret
      exact ⟨ret_bool (by simp [in6, h1, h2]), by first | exact below_dn ((Below.refl _ _).alloc (Nat.le_refl _) _) _ | exact (Below.refl _ _).alloc (Nat.le_refl _) _⟩
    · have h1 : decide ((m : Int) ≤ 9223372036854775808) = false := by rw [decide_eq_false_iff_not]; omega
      have h2 : decide (m ≤ 9223372036854775808) = false := by rw [decide_eq_false_iff_not]; omega
      go_enter Tryd.func53, Tryd.ntmps53
      go_wp2_with (first | (go_at_call 58; refine (sgn6 _).mono ?_; rintro e w' ⟨rfl, rfl⟩) | (go_at_call 69; refine (top6 _).mono ?_; rintro e w' ⟨rfl, rfl⟩))
      go_quiet (first | (go_at_call 58; exact quiet_eq (sgn6 _)) | (go_at_call 69; exact quiet_eq (top6 _)))
      go_wp2
      go_ret
      exact ⟨ret_bool (by simp [in6, h1, h2]), by first | exact below_dn ((Below.refl _ _).alloc (Nat.le_refl _) _) _ | exact (Below.refl _ _).alloc (Nat.le_refl _) _⟩
def wordN (neg : Bool) (m : Nat) : Int := if neg then IntKind.u64.wrap (0 - (m : Int)) else (m : Int)
theorem rword1_c (m : Nat) (neg : Bool) (w : World) : Calls Tryd.prog 54 #[.agg #[.bool neg, .int .u64 (m : Int)]] w fun e w' => e = .returned (.int .u64 (wordN neg m)) ∧ Below w.heap.size w w' := by
  cases neg
  all_goals
    go_enter Tryd.func54, Tryd.ntmps54
    go_wp2
    go_returns
    exact ⟨ret_u64 (by simp [wordN]), by first | exact below_dn ((Below.refl _ _).alloc (Nat.le_refl _) _) _ | exact (Below.refl _ _).alloc (Nat.le_refl _) _⟩
def constN (neg : Bool) (m : Nat) : Bool := !neg || (decide (0 < m) && decide (m ≤ 9223372036854775808))
theorem rconst_c (m : Nat) (neg : Bool) (w : World) : Calls Tryd.prog 68 #[.agg #[.bool neg, .int .u64 (m : Int)]] w fun e w' => e = .returned (.bool (constN neg m)) ∧ Below w.heap.size w w' := by
  cases neg
  · go_enter Tryd.func68, Tryd.ntmps68
    go_wp2
    go_ret
    exact ⟨ret_bool (by simp [constN]), by first | exact below_dn ((Below.refl _ _).alloc (Nat.le_refl _) _) _ | exact (Below.refl _ _).alloc (Nat.le_refl _) _⟩
  · by_cases h0 : 0 < m
    · have h1 : (0 : Int) < (m : Int) := by omega
      by_cases h : m ≤ 9223372036854775808
      · have h2 : decide ((m : Int) ≤ 9223372036854775808) = true := by rw [decide_eq_true_eq]; omega
        go_enter Tryd.func68, Tryd.ntmps68
        go_wp2
        go_ret
        exact ⟨ret_bool (by simp [constN, h, h0, h1, h2]), by first | exact below_dn ((Below.refl _ _).alloc (Nat.le_refl _) _) _ | exact (Below.refl _ _).alloc (Nat.le_refl _) _⟩
      · have h2 : decide ((m : Int) ≤ 9223372036854775808) = false := by rw [decide_eq_false_iff_not]; omega
        go_enter Tryd.func68, Tryd.ntmps68
        go_wp2
        go_ret
        exact ⟨ret_bool (by simp [constN, h, h0, h1, h2]), by first | exact below_dn ((Below.refl _ _).alloc (Nat.le_refl _) _) _ | exact (Below.refl _ _).alloc (Nat.le_refl _) _⟩
    · obtain rfl : m = 0 := by omega
      go_enter Tryd.func68, Tryd.ntmps68
      go_wp2
      go_ret
      exact ⟨ret_bool (by simp [constN]), by first | exact below_dn ((Below.refl _ _).alloc (Nat.le_refl _) _) _ | exact (Below.refl _ _).alloc (Nat.le_refl _) _⟩
end Go.Proofs.YthfnjphmodcnoaaDoor
