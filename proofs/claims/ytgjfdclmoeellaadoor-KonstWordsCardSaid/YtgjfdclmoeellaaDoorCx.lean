/- Contracts of konst.Of and konst.Fits, for every input within the range of their types. -/
import Derived.Test.YtgjfdclmoeellaaDoorPn
import Derived.Test.YtgjfdclmoeellaaDoorCa
namespace Go.Proofs.YtgjfdclmoeellaaDoor
open Go.RowKit
set_option linter.unusedSimpArgs false
set_option linter.unusedVariables false

theorem checkW_one (k n : Int) : checkW k [n] = if isW k then (if inW k n then 0 else 1) else 2 := by simp [checkW]
theorem kof_any (k n : Int) (w : World) (h1 : -9223372036854775808 ≤ k) (h2 : k ≤ 9223372036854775807) (n0 : 0 ≤ n) (n1 : n ≤ 18446744073709551615) :
    Calls Tryd.prog 13 #[.int .i64 k, .int .u64 n] w fun e w' => e = .returned (.tuple #[.bool (decide (checkW k [n] = 0) && ofNeg k n), .int .u64 (resW (checkW k [n]) (ofN k n)), .int .i64 (checkW k [n])]) ∧ w = w' := by
  cases hk : isW k
  · have e2 : errW k = 2 := by simp [errW, hk]
    go_enter Tryd.func13, Tryd.ntmps13
    go_wp2_with (first | (go_at_call 21; refine (signed_any _ _ h1 h2).mono ?_; rintro e w' ⟨rfl, rfl⟩))
    go_ret3; go_tidy; refine ⟨ret_three (v_bool ?_) (v_int ?_) (v_int ?_), rfl⟩ <;> simp [checkW_one, hk, resW]
  have e2 : errW k = 0 := by simp [errW, hk]
  cases hi : inW k n
  · go_enter Tryd.func13, Tryd.ntmps13
    go_wp2_with (first | (go_at_call 21; refine (signed_any _ _ h1 h2).mono ?_; rintro e w' ⟨rfl, rfl⟩) | (go_at_call 26; refine (is_any _ _ _).mono ?_; rintro e w' ⟨rfl, rfl⟩))
    go_ret3; go_tidy; refine ⟨ret_three (v_bool ?_) (v_int ?_) (v_int ?_), rfl⟩ <;> simp [checkW_one, hk, hi, resW]
  cases hg : sgnW k
  · go_enter Tryd.func13, Tryd.ntmps13
    go_wp2_with (first | (go_at_call 21; refine (signed_any _ _ h1 h2).mono ?_; rintro e w' ⟨rfl, rfl⟩) | (go_at_call 26; refine (is_any _ _ _).mono ?_; rintro e w' ⟨rfl, rfl⟩))
    go_ret3; go_tidy; refine ⟨ret_three (v_bool ?_) (v_int ?_) (v_int ?_), rfl⟩ <;> simp [checkW_one, hk, hi, resW, ofN, ofNeg, hg]
  by_cases hc : 9223372036854775808 ≤ n
  · have hw : wrap64 n < 0 := by unfold wrap64; omega
    go_enter Tryd.func13, Tryd.ntmps13
    go_wp2_with (first | (go_at_call 21; refine (signed_any _ _ h1 h2).mono ?_; rintro e w' ⟨rfl, rfl⟩) | (go_at_call 26; refine (is_any _ _ _).mono ?_; rintro e w' ⟨rfl, rfl⟩))
    go_ret3; go_tidy; refine ⟨ret_three (v_bool ?_) (v_int ?_) (v_int ?_), rfl⟩ <;> simp [checkW_one, hk, hi, resW, ofN, ofNeg, hg, hc]
  · have hw : ¬ wrap64 n < 0 := by unfold wrap64; omega
    go_enter Tryd.func13, Tryd.ntmps13
    go_wp2_with (first | (go_at_call 21; refine (signed_any _ _ h1 h2).mono ?_; rintro e w' ⟨rfl, rfl⟩) | (go_at_call 26; refine (is_any _ _ _).mono ?_; rintro e w' ⟨rfl, rfl⟩))
    go_ret3; go_tidy; refine ⟨ret_three (v_bool ?_) (v_int ?_) (v_int ?_), rfl⟩ <;> simp [checkW_one, hk, hi, resW, ofN, ofNeg, hg] <;> omega
set_option maxHeartbeats 1000000 in
theorem kfits_any (k n : Int) (neg : Bool) (w : World) (h1 : -9223372036854775808 ≤ k) (h2 : k ≤ 9223372036854775807) (n0 : 0 ≤ n) (n1 : n ≤ 18446744073709551615) :
    Calls Tryd.prog 12 #[.int .i64 k, .bool neg, .int .u64 n] w fun e w' => e = .returned (.tuple #[.int .u64 (resW (kFitErr k neg n) (wordOf neg n)), .int .i64 (kFitErr k neg n)]) ∧ w = w' := by
  cases hk : isW k
  · have e2 : errW k = 2 := by simp [errW, hk]
    go_enter Tryd.func12, Tryd.ntmps12
    go_wp2_with (first | (go_at_call 21; refine (signed_any _ _ h1 h2).mono ?_; rintro e w' ⟨rfl, rfl⟩))
    go_ret2; go_tidy; refine ⟨ret_two (v_int ?_) (v_int ?_), rfl⟩ <;> simp [kFitErr, hk, resW]
  have e2 : errW k = 0 := by simp [errW, hk]
  cases hs : sound neg n
  · go_enter Tryd.func12, Tryd.ntmps12
    go_wp2_with (first | (go_at_call 21; refine (signed_any _ _ h1 h2).mono ?_; rintro e w' ⟨rfl, rfl⟩) | (go_at_call 28; refine (ksound_any _ _ _).mono ?_; rintro e w' ⟨rfl, rfl⟩))
    go_ret2; go_tidy; refine ⟨ret_two (v_int ?_) (v_int ?_), rfl⟩ <;> simp [kFitErr, hk, hs, resW]
  have hf := fits_iff k neg n hk hs n0 n1
  cases hi : inW k (wordOf neg n) <;> cases hg : sgnW k <;> cases hc : decide (9223372036854775808 ≤ n) <;> cases neg
  all_goals
    rw [hi, hg, hc] at hf
    simp only [wordOf, Bool.false_eq_true, if_false, if_true] at hi hf
    have HF := Lib.hid hf
    clear hf
    go_enter Tryd.func12, Tryd.ntmps12
    go_wp2_with (first | (go_at_call 21; refine (signed_any _ _ h1 h2).mono ?_; rintro e w' ⟨rfl, rfl⟩) | (go_at_call 28; refine (ksound_any _ _ _).mono ?_; rintro e w' ⟨rfl, rfl⟩) | (go_at_call 26; refine (is_any _ _ _).mono ?_; rintro e w' ⟨rfl, rfl⟩))
    go_ret2; go_tidy; refine ⟨ret_two (v_int ?_) (v_int ?_), rfl⟩ <;> simp [kFitErr, hk, hs, resW, HF.out, wordOf]
end Go.Proofs.YtgjfdclmoeellaaDoor
