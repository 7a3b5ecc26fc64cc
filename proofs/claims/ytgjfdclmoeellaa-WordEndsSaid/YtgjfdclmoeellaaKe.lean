/- The walk of the law WordEnds: it returns true for every input within the range of its types. -/
import Derived.Test.YtgjfdclmoeellaaKb
namespace Go.Proofs.Ytgjfdclmoeellaa
open Go.RowKit
set_option linter.unusedSimpArgs false
set_option linter.unusedVariables false

set_option maxRecDepth 100000 in
set_option maxHeartbeats 1000000 in
theorem ends_2 (x : Int) (x0 : 0 ≤ x) (x1 : x ≤ 18446744073709551615) (w : World) :
    Calls Try.prog 11 #[.int .i64 2, .int .u64 x] w fun e w' => e = .returned (.bool true) ∧ Below w.heap.size w w' := by
  have e1 : bitsW 2 = 8 := by decide
  have e2 : errW 2 = 0 := by decide
  have e3 : sgnW 2 = true := by decide
  have e4 : wrapW 2 128 = 18446744073709551488 := by decide
  have e5 : arithW 2 1 127 1 = 18446744073709551488 := by decide
  have e6 : arithErr 2 1 127 1 = 0 := by decide
  have e7 : inW 2 127 = true := by decide
  have e8 : inW 2 18446744073709551488 = true := by decide
  have i0 := inW_wrapW 2 x (by decide) x0 x1
  have e9 : checkW 2 [wrapW 2 x, 18446744073709551488] = 0 := checkW2.2 ⟨i0, e8⟩
  have e10 : checkW 2 [127, wrapW 2 x] = 0 := checkW2.2 ⟨e7, i0⟩
  have e11 : lessW 2 (wrapW 2 x) 18446744073709551488 = false := by simp [lessW, sval, e3, wrap64, wrapW]; omega
  have e12 : lessW 2 127 (wrapW 2 x) = false := by simp [lessW, sval, e3, wrap64, wrapW]; omega
  have o1 := op_add
  clear i0
  generalize hv : wrapW 2 x = v at *
  go_enter Try.func11, Try.ntmps11
  go_wp2_with (first | (go_at_call 25; refine (bits_any _ _).mono ?_; rintro e w' ⟨rfl, rfl⟩) | (go_at_call 26; refine (signed_any _ _ (by omega) (by omega)).mono ?_; rintro e w' ⟨rfl, rfl⟩) | (go_at_call 18; refine (answers01 _).mono ?_; rintro e w' ⟨rfl, rfl⟩) | (go_at_call 27; refine (wrapX_any _ _ _).mono ?_; rintro e w' ⟨rfl, rfl⟩) | (go_at_call 28; refine (is_any _ _ _).mono ?_; rintro e w' ⟨rfl, rfl⟩) | (go_at_call 32; refine (arith_any _ _ _ _ _ (by omega) (by omega) (by omega) (by omega) (by omega) (by omega)).mono ?_; rintro e w1 ⟨rfl, hw⟩) | (go_at_call 38; refine (less_any _ _ _ _ (by omega) (by omega)).mono ?_; rintro e w1 ⟨rfl, hw⟩))
  go_ret
  exact ⟨rfl, by repeat (first | assumption | exact Below.refl _ _ | refine below_two ?_ (by assumption))⟩
set_option maxRecDepth 100000 in
set_option maxHeartbeats 1000000 in
theorem ends_3 (x : Int) (x0 : 0 ≤ x) (x1 : x ≤ 18446744073709551615) (w : World) :
    Calls Try.prog 11 #[.int .i64 3, .int .u64 x] w fun e w' => e = .returned (.bool true) ∧ Below w.heap.size w w' := by
  have e1 : bitsW 3 = 8 := by decide
  have e2 : errW 3 = 0 := by decide
  have e3 : sgnW 3 = false := by decide
  have e4 : wrapW 3 128 = 128 := by decide
  have e5 : arithW 3 1 255 1 = 0 := by decide
  have e6 : arithErr 3 1 255 1 = 0 := by decide
  have e7 : inW 3 255 = true := by decide
  have e8 : inW 3 0 = true := by decide
  have i0 := inW_wrapW 3 x (by decide) x0 x1
  have e9 : checkW 3 [wrapW 3 x, 0] = 0 := checkW2.2 ⟨i0, e8⟩
  have e10 : checkW 3 [255, wrapW 3 x] = 0 := checkW2.2 ⟨e7, i0⟩
  have e11 : lessW 3 (wrapW 3 x) 0 = false := by simp [lessW, sval, e3, wrap64, wrapW]; omega
  have e12 : lessW 3 255 (wrapW 3 x) = false := by simp [lessW, sval, e3, wrap64, wrapW]; omega
  have o1 := op_add
  clear i0
  generalize hv : wrapW 3 x = v at *
  go_enter Try.func11, Try.ntmps11
  go_wp2_with (first | (go_at_call 25; refine (bits_any _ _).mono ?_; rintro e w' ⟨rfl, rfl⟩) | (go_at_call 26; refine (signed_any _ _ (by omega) (by omega)).mono ?_; rintro e w' ⟨rfl, rfl⟩) | (go_at_call 18; refine (answers01 _).mono ?_; rintro e w' ⟨rfl, rfl⟩) | (go_at_call 27; refine (wrapX_any _ _ _).mono ?_; rintro e w' ⟨rfl, rfl⟩) | (go_at_call 28; refine (is_any _ _ _).mono ?_; rintro e w' ⟨rfl, rfl⟩) | (go_at_call 32; refine (arith_any _ _ _ _ _ (by omega) (by omega) (by omega) (by omega) (by omega) (by omega)).mono ?_; rintro e w1 ⟨rfl, hw⟩) | (go_at_call 38; refine (less_any _ _ _ _ (by omega) (by omega)).mono ?_; rintro e w1 ⟨rfl, hw⟩))
  go_ret
  exact ⟨rfl, by repeat (first | assumption | exact Below.refl _ _ | refine below_two ?_ (by assumption))⟩
set_option maxRecDepth 100000 in
set_option maxHeartbeats 1000000 in
theorem ends_4 (x : Int) (x0 : 0 ≤ x) (x1 : x ≤ 18446744073709551615) (w : World) :
    Calls Try.prog 11 #[.int .i64 4, .int .u64 x] w fun e w' => e = .returned (.bool true) ∧ Below w.heap.size w w' := by
  have e1 : bitsW 4 = 32 := by decide
  have e2 : errW 4 = 0 := by decide
  have e3 : sgnW 4 = true := by decide
  have e4 : wrapW 4 2147483648 = 18446744071562067968 := by decide
  have e5 : arithW 4 1 2147483647 1 = 18446744071562067968 := by decide
  have e6 : arithErr 4 1 2147483647 1 = 0 := by decide
  have e7 : inW 4 2147483647 = true := by decide
  have e8 : inW 4 18446744071562067968 = true := by decide
  have i0 := inW_wrapW 4 x (by decide) x0 x1
  have e9 : checkW 4 [wrapW 4 x, 18446744071562067968] = 0 := checkW2.2 ⟨i0, e8⟩
  have e10 : checkW 4 [2147483647, wrapW 4 x] = 0 := checkW2.2 ⟨e7, i0⟩
  have e11 : lessW 4 (wrapW 4 x) 18446744071562067968 = false := by simp [lessW, sval, e3, wrap64, wrapW]; omega
  have e12 : lessW 4 2147483647 (wrapW 4 x) = false := by simp [lessW, sval, e3, wrap64, wrapW]; omega
  have o1 := op_add
  clear i0
  generalize hv : wrapW 4 x = v at *
  go_enter Try.func11, Try.ntmps11
  go_wp2_with (first | (go_at_call 25; refine (bits_any _ _).mono ?_; rintro e w' ⟨rfl, rfl⟩) | (go_at_call 26; refine (signed_any _ _ (by omega) (by omega)).mono ?_; rintro e w' ⟨rfl, rfl⟩) | (go_at_call 18; refine (answers01 _).mono ?_; rintro e w' ⟨rfl, rfl⟩) | (go_at_call 27; refine (wrapX_any _ _ _).mono ?_; rintro e w' ⟨rfl, rfl⟩) | (go_at_call 28; refine (is_any _ _ _).mono ?_; rintro e w' ⟨rfl, rfl⟩) | (go_at_call 32; refine (arith_any _ _ _ _ _ (by omega) (by omega) (by omega) (by omega) (by omega) (by omega)).mono ?_; rintro e w1 ⟨rfl, hw⟩) | (go_at_call 38; refine (less_any _ _ _ _ (by omega) (by omega)).mono ?_; rintro e w1 ⟨rfl, hw⟩))
  go_ret
  exact ⟨rfl, by repeat (first | assumption | exact Below.refl _ _ | refine below_two ?_ (by assumption))⟩
set_option maxRecDepth 100000 in
set_option maxHeartbeats 1000000 in
theorem ends_5 (x : Int) (x0 : 0 ≤ x) (x1 : x ≤ 18446744073709551615) (w : World) :
    Calls Try.prog 11 #[.int .i64 5, .int .u64 x] w fun e w' => e = .returned (.bool true) ∧ Below w.heap.size w w' := by
  have e1 : bitsW 5 = 32 := by decide
  have e2 : errW 5 = 0 := by decide
  have e3 : sgnW 5 = false := by decide
  have e4 : wrapW 5 2147483648 = 2147483648 := by decide
  have e5 : arithW 5 1 4294967295 1 = 0 := by decide
  have e6 : arithErr 5 1 4294967295 1 = 0 := by decide
  have e7 : inW 5 4294967295 = true := by decide
  have e8 : inW 5 0 = true := by decide
  have i0 := inW_wrapW 5 x (by decide) x0 x1
  have e9 : checkW 5 [wrapW 5 x, 0] = 0 := checkW2.2 ⟨i0, e8⟩
  have e10 : checkW 5 [4294967295, wrapW 5 x] = 0 := checkW2.2 ⟨e7, i0⟩
  have e11 : lessW 5 (wrapW 5 x) 0 = false := by simp [lessW, sval, e3, wrap64, wrapW]; omega
  have e12 : lessW 5 4294967295 (wrapW 5 x) = false := by simp [lessW, sval, e3, wrap64, wrapW]; omega
  have o1 := op_add
  clear i0
  generalize hv : wrapW 5 x = v at *
  go_enter Try.func11, Try.ntmps11
  go_wp2_with (first | (go_at_call 25; refine (bits_any _ _).mono ?_; rintro e w' ⟨rfl, rfl⟩) | (go_at_call 26; refine (signed_any _ _ (by omega) (by omega)).mono ?_; rintro e w' ⟨rfl, rfl⟩) | (go_at_call 18; refine (answers01 _).mono ?_; rintro e w' ⟨rfl, rfl⟩) | (go_at_call 27; refine (wrapX_any _ _ _).mono ?_; rintro e w' ⟨rfl, rfl⟩) | (go_at_call 28; refine (is_any _ _ _).mono ?_; rintro e w' ⟨rfl, rfl⟩) | (go_at_call 32; refine (arith_any _ _ _ _ _ (by omega) (by omega) (by omega) (by omega) (by omega) (by omega)).mono ?_; rintro e w1 ⟨rfl, hw⟩) | (go_at_call 38; refine (less_any _ _ _ _ (by omega) (by omega)).mono ?_; rintro e w1 ⟨rfl, hw⟩))
  go_ret
  exact ⟨rfl, by repeat (first | assumption | exact Below.refl _ _ | refine below_two ?_ (by assumption))⟩
set_option maxRecDepth 100000 in
set_option maxHeartbeats 1000000 in
theorem ends_6 (x : Int) (x0 : 0 ≤ x) (x1 : x ≤ 18446744073709551615) (w : World) :
    Calls Try.prog 11 #[.int .i64 6, .int .u64 x] w fun e w' => e = .returned (.bool true) ∧ Below w.heap.size w w' := by
  have e1 : bitsW 6 = 64 := by decide
  have e2 : errW 6 = 0 := by decide
  have e3 : sgnW 6 = true := by decide
  have e4 : wrapW 6 9223372036854775808 = 9223372036854775808 := by decide
  have e5 : arithW 6 1 9223372036854775807 1 = 9223372036854775808 := by decide
  have e6 : arithErr 6 1 9223372036854775807 1 = 0 := by decide
  have e7 : inW 6 9223372036854775807 = true := by decide
  have e8 : inW 6 9223372036854775808 = true := by decide
  have i0 := inW_wrapW 6 x (by decide) x0 x1
  have e9 : checkW 6 [wrapW 6 x, 9223372036854775808] = 0 := checkW2.2 ⟨i0, e8⟩
  have e10 : checkW 6 [9223372036854775807, wrapW 6 x] = 0 := checkW2.2 ⟨e7, i0⟩
  have e11 : lessW 6 (wrapW 6 x) 9223372036854775808 = false := by simp [lessW, sval, e3, wrap64, wrapW]; omega
  have e12 : lessW 6 9223372036854775807 (wrapW 6 x) = false := by simp [lessW, sval, e3, wrap64, wrapW]; omega
  have o1 := op_add
  clear i0
  generalize hv : wrapW 6 x = v at *
  go_enter Try.func11, Try.ntmps11
  go_wp2_with (first | (go_at_call 25; refine (bits_any _ _).mono ?_; rintro e w' ⟨rfl, rfl⟩) | (go_at_call 26; refine (signed_any _ _ (by omega) (by omega)).mono ?_; rintro e w' ⟨rfl, rfl⟩) | (go_at_call 18; refine (answers01 _).mono ?_; rintro e w' ⟨rfl, rfl⟩) | (go_at_call 27; refine (wrapX_any _ _ _).mono ?_; rintro e w' ⟨rfl, rfl⟩) | (go_at_call 28; refine (is_any _ _ _).mono ?_; rintro e w' ⟨rfl, rfl⟩) | (go_at_call 32; refine (arith_any _ _ _ _ _ (by omega) (by omega) (by omega) (by omega) (by omega) (by omega)).mono ?_; rintro e w1 ⟨rfl, hw⟩) | (go_at_call 38; refine (less_any _ _ _ _ (by omega) (by omega)).mono ?_; rintro e w1 ⟨rfl, hw⟩))
  go_ret
  exact ⟨rfl, by repeat (first | assumption | exact Below.refl _ _ | refine below_two ?_ (by assumption))⟩
set_option maxRecDepth 100000 in
set_option maxHeartbeats 1000000 in
theorem ends_7 (x : Int) (x0 : 0 ≤ x) (x1 : x ≤ 18446744073709551615) (w : World) :
    Calls Try.prog 11 #[.int .i64 7, .int .u64 x] w fun e w' => e = .returned (.bool true) ∧ Below w.heap.size w w' := by
  have e1 : bitsW 7 = 64 := by decide
  have e2 : errW 7 = 0 := by decide
  have e3 : sgnW 7 = false := by decide
  have e4 : wrapW 7 9223372036854775808 = 9223372036854775808 := by decide
  have e5 : arithW 7 1 18446744073709551615 1 = 0 := by decide
  have e6 : arithErr 7 1 18446744073709551615 1 = 0 := by decide
  have e7 : inW 7 18446744073709551615 = true := by decide
  have e8 : inW 7 0 = true := by decide
  have i0 := inW_wrapW 7 x (by decide) x0 x1
  have e9 : checkW 7 [wrapW 7 x, 0] = 0 := checkW2.2 ⟨i0, e8⟩
  have e10 : checkW 7 [18446744073709551615, wrapW 7 x] = 0 := checkW2.2 ⟨e7, i0⟩
  have e11 : lessW 7 (wrapW 7 x) 0 = false := by simp [lessW, sval, e3, wrap64, wrapW]; omega
  have e12 : lessW 7 18446744073709551615 (wrapW 7 x) = false := by simp [lessW, sval, e3, wrap64, wrapW]; omega
  have o1 := op_add
  clear i0
  generalize hv : wrapW 7 x = v at *
  go_enter Try.func11, Try.ntmps11
  go_wp2_with (first | (go_at_call 25; refine (bits_any _ _).mono ?_; rintro e w' ⟨rfl, rfl⟩) | (go_at_call 26; refine (signed_any _ _ (by omega) (by omega)).mono ?_; rintro e w' ⟨rfl, rfl⟩) | (go_at_call 18; refine (answers01 _).mono ?_; rintro e w' ⟨rfl, rfl⟩) | (go_at_call 27; refine (wrapX_any _ _ _).mono ?_; rintro e w' ⟨rfl, rfl⟩) | (go_at_call 28; refine (is_any _ _ _).mono ?_; rintro e w' ⟨rfl, rfl⟩) | (go_at_call 32; refine (arith_any _ _ _ _ _ (by omega) (by omega) (by omega) (by omega) (by omega) (by omega)).mono ?_; rintro e w1 ⟨rfl, hw⟩) | (go_at_call 38; refine (less_any _ _ _ _ (by omega) (by omega)).mono ?_; rintro e w1 ⟨rfl, hw⟩))
  go_ret
  exact ⟨rfl, by repeat (first | assumption | exact Below.refl _ _ | refine below_two ?_ (by assumption))⟩
theorem walkWordEnds (k x : Int) (h1 : -9223372036854775808 ≤ k) (h2 : k ≤ 9223372036854775807) (x0 : 0 ≤ x) (x1 : x ≤ 18446744073709551615) (w : World) :
    Calls Try.prog 11 #[.int .i64 k, .int .u64 x] w fun e w' => e = .returned (.bool true) ∧ Below w.heap.size w w' := by
  cases hk : isW k
  · have e2 : errW k = 2 := by simp [errW, hk]
    go_enter Try.func11, Try.ntmps11
    go_wp2_with (first | (go_at_call 25; refine (bits_any _ _).mono ?_; rintro e w' ⟨rfl, rfl⟩) | (go_at_call 26; refine (signed_any _ _ h1 h2).mono ?_; rintro e w' ⟨rfl, rfl⟩) | (go_at_call 18; refine (answers01 _).mono ?_; rintro e w' ⟨rfl, rfl⟩) | (go_at_call 19; refine (rwhole_any _ _).mono ?_; rintro e w' ⟨rfl, rfl⟩))
    go_ret; exact ⟨rfl, Below.refl _ _⟩
  · rcases isW_cases hk with rfl | rfl | rfl | rfl | rfl | rfl
    · exact ends_2 x x0 x1 w
    · exact ends_3 x x0 x1 w
    · exact ends_4 x x0 x1 w
    · exact ends_5 x x0 x1 w
    · exact ends_6 x x0 x1 w
    · exact ends_7 x x0 x1 w
end Go.Proofs.Ytgjfdclmoeellaa
