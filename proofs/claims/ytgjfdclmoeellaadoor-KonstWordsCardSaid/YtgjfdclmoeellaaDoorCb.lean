/- The contract of konst.Fold: what comes of each operator on any two constants, for every input within the range of its types. -/
import Derived.Test.YtgjfdclmoeellaaDoorCa
namespace Go.Proofs.YtgjfdclmoeellaaDoor
open Go.RowKit
set_option linter.unusedSimpArgs false
set_option linter.unusedVariables false

set_option maxHeartbeats 1000000 in
theorem kfold_add (an bn : Bool) (a b : Int) (s : ByteArray) (hs : s.toList = [43]) (w : World) (a0 : 0 ≤ a) (a1 : a ≤ 18446744073709551615) (b0 : 0 ≤ b) (b1 : b ≤ 18446744073709551615) :
    Calls Tryd.prog 29 #[.string s, .bool an, .int .u64 a, .bool bn, .int .u64 b] w fun e w' => e = .returned (.tuple #[.bool (kFold (opCode s) an a bn b).1, .int .u64 (kFold (opCode s) an a bn b).2.1, .int .i64 (kFold (opCode s) an a bn b).2.2]) ∧ w = w' := by
  cases hx : sound an a
  · go_enter Tryd.func29, Tryd.ntmps29
    go_wp2_with (first | (go_at_call 28; refine (ksound_any _ _ _).mono ?_; rintro e w' ⟨rfl, rfl⟩))
    go_ret3; go_tidy; refine ⟨ret_three (v_bool ?_) (v_int ?_) (v_int ?_), rfl⟩ <;> simp [kFold, opCode, hs, hx]
  cases hy : sound bn b
  · go_enter Tryd.func29, Tryd.ntmps29
    go_wp2_with (first | (go_at_call 28; refine (ksound_any _ _ _).mono ?_; rintro e w' ⟨rfl, rfl⟩))
    go_ret3; go_tidy; refine ⟨ret_three (v_bool ?_) (v_int ?_) (v_int ?_), rfl⟩ <;> simp [kFold, opCode, hs, hx, hy]
  go_enter Tryd.func29, Tryd.ntmps29
  go_wp2_with (first | (go_at_call 28; refine (ksound_any _ _ _).mono ?_; rintro e w' ⟨rfl, rfl⟩) | (go_at_call 36; refine (kadd_any _ _ _ _ _ (by omega) (by omega) (by omega) (by omega)).mono ?_; rintro e w' ⟨rfl, rfl⟩))
  go_ret3; go_tidy; refine ⟨ret_three (v_bool ?_) (v_int ?_) (v_int ?_), rfl⟩ <;> simp [kFold, opCode, hs, hx, hy]
set_option maxHeartbeats 1000000 in
theorem kfold_sub (an bn : Bool) (a b : Int) (s : ByteArray) (hs : s.toList = [45]) (w : World) (a0 : 0 ≤ a) (a1 : a ≤ 18446744073709551615) (b0 : 0 ≤ b) (b1 : b ≤ 18446744073709551615) :
    Calls Tryd.prog 29 #[.string s, .bool an, .int .u64 a, .bool bn, .int .u64 b] w fun e w' => e = .returned (.tuple #[.bool (kFold (opCode s) an a bn b).1, .int .u64 (kFold (opCode s) an a bn b).2.1, .int .i64 (kFold (opCode s) an a bn b).2.2]) ∧ w = w' := by
  cases hx : sound an a
  · go_enter Tryd.func29, Tryd.ntmps29
    go_wp2_with (first | (go_at_call 28; refine (ksound_any _ _ _).mono ?_; rintro e w' ⟨rfl, rfl⟩))
    go_ret3; go_tidy; refine ⟨ret_three (v_bool ?_) (v_int ?_) (v_int ?_), rfl⟩ <;> simp [kFold, opCode, hs, hx]
  cases hy : sound bn b
  · go_enter Tryd.func29, Tryd.ntmps29
    go_wp2_with (first | (go_at_call 28; refine (ksound_any _ _ _).mono ?_; rintro e w' ⟨rfl, rfl⟩))
    go_ret3; go_tidy; refine ⟨ret_three (v_bool ?_) (v_int ?_) (v_int ?_), rfl⟩ <;> simp [kFold, opCode, hs, hx, hy]
  have hk : kval an a + kval (!bn) b = kval an a - kval bn b := by unfold kval; cases bn <;> simp <;> omega
  go_enter Tryd.func29, Tryd.ntmps29
  go_wp2_with (first | (go_at_call 28; refine (ksound_any _ _ _).mono ?_; rintro e w' ⟨rfl, rfl⟩) | (go_at_call 36; refine (kadd_any _ _ _ _ _ (by omega) (by omega) (by omega) (by omega)).mono ?_; rintro e w' ⟨rfl, rfl⟩))
  go_ret3; go_tidy; refine ⟨ret_three (v_bool ?_) (v_int ?_) (v_int ?_), rfl⟩ <;> simp [kFold, opCode, hs, hx, hy]
set_option maxHeartbeats 1000000 in
theorem kfold_mul (an bn : Bool) (a b : Int) (s : ByteArray) (hs : s.toList = [42]) (w : World) (a0 : 0 ≤ a) (a1 : a ≤ 18446744073709551615) (b0 : 0 ≤ b) (b1 : b ≤ 18446744073709551615) :
    Calls Tryd.prog 29 #[.string s, .bool an, .int .u64 a, .bool bn, .int .u64 b] w fun e w' => e = .returned (.tuple #[.bool (kFold (opCode s) an a bn b).1, .int .u64 (kFold (opCode s) an a bn b).2.1, .int .i64 (kFold (opCode s) an a bn b).2.2]) ∧ w = w' := by
  cases hx : sound an a
  · go_enter Tryd.func29, Tryd.ntmps29
    go_wp2_with (first | (go_at_call 28; refine (ksound_any _ _ _).mono ?_; rintro e w' ⟨rfl, rfl⟩))
    go_ret3; go_tidy; refine ⟨ret_three (v_bool ?_) (v_int ?_) (v_int ?_), rfl⟩ <;> simp [kFold, opCode, hs, hx]
  cases hy : sound bn b
  · go_enter Tryd.func29, Tryd.ntmps29
    go_wp2_with (first | (go_at_call 28; refine (ksound_any _ _ _).mono ?_; rintro e w' ⟨rfl, rfl⟩))
    go_ret3; go_tidy; refine ⟨ret_three (v_bool ?_) (v_int ?_) (v_int ?_), rfl⟩ <;> simp [kFold, opCode, hs, hx, hy]
  have hk : kMade (!an == bn) (a * b % 18446744073709551616) (decide (0 < a * b / 18446744073709551616)) = kres (kval an a * kval bn b) := by
    have h := mul_made an bn a b a0 b0
    rwa [show (an != bn) = (!an == bn) by cases an <;> cases bn <;> rfl] at h
  go_enter Tryd.func29, Tryd.ntmps29
  go_wp2_with (first | (go_at_call 28; refine (ksound_any _ _ _).mono ?_; rintro e w' ⟨rfl, rfl⟩) | (go_at_call 37; refine (mul64_any _ _ _ (by omega) (by omega) (by omega) (by omega)).mono ?_; rintro e w' ⟨rfl, rfl⟩) | (go_at_call 38; refine (kmade_any _ _ _ _).mono ?_; rintro e w' ⟨rfl, rfl⟩))
  go_ret3; go_tidy; refine ⟨ret_three (v_bool ?_) (v_int ?_) (v_int ?_), rfl⟩ <;> simp [kFold, opCode, hs, hx, hy, hk]
set_option maxHeartbeats 1000000 in
theorem kfold_and (an bn : Bool) (a b : Int) (s : ByteArray) (hs : s.toList = [38]) (w : World) (a0 : 0 ≤ a) (a1 : a ≤ 18446744073709551615) (b0 : 0 ≤ b) (b1 : b ≤ 18446744073709551615) :
    Calls Tryd.prog 29 #[.string s, .bool an, .int .u64 a, .bool bn, .int .u64 b] w fun e w' => e = .returned (.tuple #[.bool (kFold (opCode s) an a bn b).1, .int .u64 (kFold (opCode s) an a bn b).2.1, .int .i64 (kFold (opCode s) an a bn b).2.2]) ∧ w = w' := by
  cases hx : sound an a
  · go_enter Tryd.func29, Tryd.ntmps29
    go_wp2_with (first | (go_at_call 28; refine (ksound_any _ _ _).mono ?_; rintro e w' ⟨rfl, rfl⟩))
    go_ret3; go_tidy; refine ⟨ret_three (v_bool ?_) (v_int ?_) (v_int ?_), rfl⟩ <;> simp [kFold, opCode, hs, hx]
  cases hy : sound bn b
  · go_enter Tryd.func29, Tryd.ntmps29
    go_wp2_with (first | (go_at_call 28; refine (ksound_any _ _ _).mono ?_; rintro e w' ⟨rfl, rfl⟩))
    go_ret3; go_tidy; refine ⟨ret_three (v_bool ?_) (v_int ?_) (v_int ?_), rfl⟩ <;> simp [kFold, opCode, hs, hx, hy]
  cases an <;> cases bn
  all_goals
    go_enter Tryd.func29, Tryd.ntmps29
    go_wp2_with (first | (go_at_call 28; refine (ksound_any _ _ _).mono ?_; rintro e w' ⟨rfl, rfl⟩))
    go_ret3; go_tidy; refine ⟨ret_three (v_bool ?_) (v_int ?_) (v_int ?_), rfl⟩ <;> simp [kFold, opCode, hs, hx, hy]
set_option maxHeartbeats 1000000 in
theorem kfold_or (an bn : Bool) (a b : Int) (s : ByteArray) (hs : s.toList = [124]) (w : World) (a0 : 0 ≤ a) (a1 : a ≤ 18446744073709551615) (b0 : 0 ≤ b) (b1 : b ≤ 18446744073709551615) :
    Calls Tryd.prog 29 #[.string s, .bool an, .int .u64 a, .bool bn, .int .u64 b] w fun e w' => e = .returned (.tuple #[.bool (kFold (opCode s) an a bn b).1, .int .u64 (kFold (opCode s) an a bn b).2.1, .int .i64 (kFold (opCode s) an a bn b).2.2]) ∧ w = w' := by
  cases hx : sound an a
  · go_enter Tryd.func29, Tryd.ntmps29
    go_wp2_with (first | (go_at_call 28; refine (ksound_any _ _ _).mono ?_; rintro e w' ⟨rfl, rfl⟩))
    go_ret3; go_tidy; refine ⟨ret_three (v_bool ?_) (v_int ?_) (v_int ?_), rfl⟩ <;> simp [kFold, opCode, hs, hx]
  cases hy : sound bn b
  · go_enter Tryd.func29, Tryd.ntmps29
    go_wp2_with (first | (go_at_call 28; refine (ksound_any _ _ _).mono ?_; rintro e w' ⟨rfl, rfl⟩))
    go_ret3; go_tidy; refine ⟨ret_three (v_bool ?_) (v_int ?_) (v_int ?_), rfl⟩ <;> simp [kFold, opCode, hs, hx, hy]
  cases an <;> cases bn
  all_goals
    go_enter Tryd.func29, Tryd.ntmps29
    go_wp2_with (first | (go_at_call 28; refine (ksound_any _ _ _).mono ?_; rintro e w' ⟨rfl, rfl⟩))
    go_ret3; go_tidy; refine ⟨ret_three (v_bool ?_) (v_int ?_) (v_int ?_), rfl⟩ <;> simp [kFold, opCode, hs, hx, hy]
set_option maxHeartbeats 1000000 in
theorem kfold_xor (an bn : Bool) (a b : Int) (s : ByteArray) (hs : s.toList = [94]) (w : World) (a0 : 0 ≤ a) (a1 : a ≤ 18446744073709551615) (b0 : 0 ≤ b) (b1 : b ≤ 18446744073709551615) :
    Calls Tryd.prog 29 #[.string s, .bool an, .int .u64 a, .bool bn, .int .u64 b] w fun e w' => e = .returned (.tuple #[.bool (kFold (opCode s) an a bn b).1, .int .u64 (kFold (opCode s) an a bn b).2.1, .int .i64 (kFold (opCode s) an a bn b).2.2]) ∧ w = w' := by
  cases hx : sound an a
  · go_enter Tryd.func29, Tryd.ntmps29
    go_wp2_with (first | (go_at_call 28; refine (ksound_any _ _ _).mono ?_; rintro e w' ⟨rfl, rfl⟩))
    go_ret3; go_tidy; refine ⟨ret_three (v_bool ?_) (v_int ?_) (v_int ?_), rfl⟩ <;> simp [kFold, opCode, hs, hx]
  cases hy : sound bn b
  · go_enter Tryd.func29, Tryd.ntmps29
    go_wp2_with (first | (go_at_call 28; refine (ksound_any _ _ _).mono ?_; rintro e w' ⟨rfl, rfl⟩))
    go_ret3; go_tidy; refine ⟨ret_three (v_bool ?_) (v_int ?_) (v_int ?_), rfl⟩ <;> simp [kFold, opCode, hs, hx, hy]
  cases an <;> cases bn
  all_goals
    go_enter Tryd.func29, Tryd.ntmps29
    go_wp2_with (first | (go_at_call 28; refine (ksound_any _ _ _).mono ?_; rintro e w' ⟨rfl, rfl⟩))
    go_ret3; go_tidy; refine ⟨ret_three (v_bool ?_) (v_int ?_) (v_int ?_), rfl⟩ <;> simp [kFold, opCode, hs, hx, hy]
set_option maxHeartbeats 1000000 in
theorem kfold_not (an bn : Bool) (a b : Int) (s : ByteArray) (hs : s.toList = [38, 94]) (w : World) (a0 : 0 ≤ a) (a1 : a ≤ 18446744073709551615) (b0 : 0 ≤ b) (b1 : b ≤ 18446744073709551615) :
    Calls Tryd.prog 29 #[.string s, .bool an, .int .u64 a, .bool bn, .int .u64 b] w fun e w' => e = .returned (.tuple #[.bool (kFold (opCode s) an a bn b).1, .int .u64 (kFold (opCode s) an a bn b).2.1, .int .i64 (kFold (opCode s) an a bn b).2.2]) ∧ w = w' := by
  cases hx : sound an a
  · go_enter Tryd.func29, Tryd.ntmps29
    go_wp2_with (first | (go_at_call 28; refine (ksound_any _ _ _).mono ?_; rintro e w' ⟨rfl, rfl⟩))
    go_ret3; go_tidy; refine ⟨ret_three (v_bool ?_) (v_int ?_) (v_int ?_), rfl⟩ <;> simp [kFold, opCode, hs, hx]
  cases hy : sound bn b
  · go_enter Tryd.func29, Tryd.ntmps29
    go_wp2_with (first | (go_at_call 28; refine (ksound_any _ _ _).mono ?_; rintro e w' ⟨rfl, rfl⟩))
    go_ret3; go_tidy; refine ⟨ret_three (v_bool ?_) (v_int ?_) (v_int ?_), rfl⟩ <;> simp [kFold, opCode, hs, hx, hy]
  cases an <;> cases bn
  all_goals
    go_enter Tryd.func29, Tryd.ntmps29
    go_wp2_with (first | (go_at_call 28; refine (ksound_any _ _ _).mono ?_; rintro e w' ⟨rfl, rfl⟩))
    go_ret3; go_tidy; refine ⟨ret_three (v_bool ?_) (v_int ?_) (v_int ?_), rfl⟩ <;> simp [kFold, opCode, hs, hx, hy]
set_option maxHeartbeats 1000000 in
theorem kfold_quo (an bn : Bool) (a b : Int) (s : ByteArray) (hs : s.toList = [47]) (w : World) (a0 : 0 ≤ a) (a1 : a ≤ 18446744073709551615) (b0 : 0 ≤ b) (b1 : b ≤ 18446744073709551615) :
    Calls Tryd.prog 29 #[.string s, .bool an, .int .u64 a, .bool bn, .int .u64 b] w fun e w' => e = .returned (.tuple #[.bool (kFold (opCode s) an a bn b).1, .int .u64 (kFold (opCode s) an a bn b).2.1, .int .i64 (kFold (opCode s) an a bn b).2.2]) ∧ w = w' := by
  cases hx : sound an a
  · go_enter Tryd.func29, Tryd.ntmps29
    go_wp2_with (first | (go_at_call 28; refine (ksound_any _ _ _).mono ?_; rintro e w' ⟨rfl, rfl⟩))
    go_ret3; go_tidy; refine ⟨ret_three (v_bool ?_) (v_int ?_) (v_int ?_), rfl⟩ <;> simp [kFold, opCode, hs, hx]
  cases hy : sound bn b
  · go_enter Tryd.func29, Tryd.ntmps29
    go_wp2_with (first | (go_at_call 28; refine (ksound_any _ _ _).mono ?_; rintro e w' ⟨rfl, rfl⟩))
    go_ret3; go_tidy; refine ⟨ret_three (v_bool ?_) (v_int ?_) (v_int ?_), rfl⟩ <;> simp [kFold, opCode, hs, hx, hy]
  by_cases hz : b = 0
  · subst hz
    go_enter Tryd.func29, Tryd.ntmps29
    go_wp2_with (first | (go_at_call 28; refine (ksound_any _ _ _).mono ?_; rintro e w' ⟨rfl, rfl⟩))
    go_ret3; go_tidy; refine ⟨ret_three (v_bool ?_) (v_int ?_) (v_int ?_), rfl⟩ <;> simp [kFold, opCode, hs, hx, hy]
  have hk : kMade (!an == bn) (a / b) false = kres ((kval an a).tdiv (kval bn b)) := by
    have h := quo_made an bn a b a0 a1 b0
    rwa [show (an != bn) = (!an == bn) by cases an <;> cases bn <;> rfl] at h
  have hb : 1 ≤ b := by omega
  go_enter Tryd.func29, Tryd.ntmps29
  go_wp2_with (first | (go_at_call 28; refine (ksound_any _ _ _).mono ?_; rintro e w' ⟨rfl, rfl⟩) | (go_at_call 38; refine (kmade_any _ _ _ _).mono ?_; rintro e w' ⟨rfl, rfl⟩))
  go_ret3; go_tidy; refine ⟨ret_three (v_bool ?_) (v_int ?_) (v_int ?_), rfl⟩ <;> simp [kFold, opCode, hs, hx, hy, hk, hz]
set_option maxHeartbeats 1000000 in
theorem kfold_rem (an bn : Bool) (a b : Int) (s : ByteArray) (hs : s.toList = [37]) (w : World) (a0 : 0 ≤ a) (a1 : a ≤ 18446744073709551615) (b0 : 0 ≤ b) (b1 : b ≤ 18446744073709551615) :
    Calls Tryd.prog 29 #[.string s, .bool an, .int .u64 a, .bool bn, .int .u64 b] w fun e w' => e = .returned (.tuple #[.bool (kFold (opCode s) an a bn b).1, .int .u64 (kFold (opCode s) an a bn b).2.1, .int .i64 (kFold (opCode s) an a bn b).2.2]) ∧ w = w' := by
  cases hx : sound an a
  · go_enter Tryd.func29, Tryd.ntmps29
    go_wp2_with (first | (go_at_call 28; refine (ksound_any _ _ _).mono ?_; rintro e w' ⟨rfl, rfl⟩))
    go_ret3; go_tidy; refine ⟨ret_three (v_bool ?_) (v_int ?_) (v_int ?_), rfl⟩ <;> simp [kFold, opCode, hs, hx]
  cases hy : sound bn b
  · go_enter Tryd.func29, Tryd.ntmps29
    go_wp2_with (first | (go_at_call 28; refine (ksound_any _ _ _).mono ?_; rintro e w' ⟨rfl, rfl⟩))
    go_ret3; go_tidy; refine ⟨ret_three (v_bool ?_) (v_int ?_) (v_int ?_), rfl⟩ <;> simp [kFold, opCode, hs, hx, hy]
  by_cases hz : b = 0
  · subst hz
    go_enter Tryd.func29, Tryd.ntmps29
    go_wp2_with (first | (go_at_call 28; refine (ksound_any _ _ _).mono ?_; rintro e w' ⟨rfl, rfl⟩))
    go_ret3; go_tidy; refine ⟨ret_three (v_bool ?_) (v_int ?_) (v_int ?_), rfl⟩ <;> simp [kFold, opCode, hs, hx, hy]
  have hk : kMade an (a % b) false = kres ((kval an a).tmod (kval bn b)) := by
    exact rem_made an bn a b a0 a1 (by omega)
  have hb : 1 ≤ b := by omega
  go_enter Tryd.func29, Tryd.ntmps29
  go_wp2_with (first | (go_at_call 28; refine (ksound_any _ _ _).mono ?_; rintro e w' ⟨rfl, rfl⟩) | (go_at_call 38; refine (kmade_any _ _ _ _).mono ?_; rintro e w' ⟨rfl, rfl⟩))
  go_ret3; go_tidy; refine ⟨ret_three (v_bool ?_) (v_int ?_) (v_int ?_), rfl⟩ <;> simp [kFold, opCode, hs, hx, hy, hk, hz]
set_option maxHeartbeats 1000000 in
theorem kfold_shl (an bn : Bool) (a b : Int) (s : ByteArray) (hs : s.toList = [60, 60]) (w : World) (a0 : 0 ≤ a) (a1 : a ≤ 18446744073709551615) (b0 : 0 ≤ b) (b1 : b ≤ 18446744073709551615) :
    Calls Tryd.prog 29 #[.string s, .bool an, .int .u64 a, .bool bn, .int .u64 b] w fun e w' => e = .returned (.tuple #[.bool (kFold (opCode s) an a bn b).1, .int .u64 (kFold (opCode s) an a bn b).2.1, .int .i64 (kFold (opCode s) an a bn b).2.2]) ∧ w = w' := by
  cases hx : sound an a
  · go_enter Tryd.func29, Tryd.ntmps29
    go_wp2_with (first | (go_at_call 28; refine (ksound_any _ _ _).mono ?_; rintro e w' ⟨rfl, rfl⟩))
    go_ret3; go_tidy; refine ⟨ret_three (v_bool ?_) (v_int ?_) (v_int ?_), rfl⟩ <;> simp [kFold, opCode, hs, hx]
  cases hy : sound bn b
  · go_enter Tryd.func29, Tryd.ntmps29
    go_wp2_with (first | (go_at_call 28; refine (ksound_any _ _ _).mono ?_; rintro e w' ⟨rfl, rfl⟩))
    go_ret3; go_tidy; refine ⟨ret_three (v_bool ?_) (v_int ?_) (v_int ?_), rfl⟩ <;> simp [kFold, opCode, hs, hx, hy]
  cases bn
  · go_enter Tryd.func29, Tryd.ntmps29
    go_wp2_with (first | (go_at_call 28; refine (ksound_any _ _ _).mono ?_; rintro e w' ⟨rfl, rfl⟩) | (go_at_call 39; refine (kshl_any _ _ _ _ hs _ a0 a1 b0 b1).mono ?_; rintro e w' ⟨rfl, rfl⟩))
    go_ret3; go_tidy; refine ⟨ret_three (v_bool ?_) (v_int ?_) (v_int ?_), rfl⟩ <;> simp [kFold, opCode, hs, hx, hy]
  · go_enter Tryd.func29, Tryd.ntmps29
    go_wp2_with (first | (go_at_call 28; refine (ksound_any _ _ _).mono ?_; rintro e w' ⟨rfl, rfl⟩) | (go_at_call 39; refine (kshl_any _ _ _ _ hs _ a0 a1 b0 b1).mono ?_; rintro e w' ⟨rfl, rfl⟩))
    go_ret3; go_tidy; refine ⟨ret_three (v_bool ?_) (v_int ?_) (v_int ?_), rfl⟩ <;> simp [kFold, opCode, hs, hx, hy]
set_option maxHeartbeats 1000000 in
theorem kfold_shr (an bn : Bool) (a b : Int) (s : ByteArray) (hs : s.toList = [62, 62]) (w : World) (a0 : 0 ≤ a) (a1 : a ≤ 18446744073709551615) (b0 : 0 ≤ b) (b1 : b ≤ 18446744073709551615) :
    Calls Tryd.prog 29 #[.string s, .bool an, .int .u64 a, .bool bn, .int .u64 b] w fun e w' => e = .returned (.tuple #[.bool (kFold (opCode s) an a bn b).1, .int .u64 (kFold (opCode s) an a bn b).2.1, .int .i64 (kFold (opCode s) an a bn b).2.2]) ∧ w = w' := by
  cases hx : sound an a
  · go_enter Tryd.func29, Tryd.ntmps29
    go_wp2_with (first | (go_at_call 28; refine (ksound_any _ _ _).mono ?_; rintro e w' ⟨rfl, rfl⟩))
    go_ret3; go_tidy; refine ⟨ret_three (v_bool ?_) (v_int ?_) (v_int ?_), rfl⟩ <;> simp [kFold, opCode, hs, hx]
  cases hy : sound bn b
  · go_enter Tryd.func29, Tryd.ntmps29
    go_wp2_with (first | (go_at_call 28; refine (ksound_any _ _ _).mono ?_; rintro e w' ⟨rfl, rfl⟩))
    go_ret3; go_tidy; refine ⟨ret_three (v_bool ?_) (v_int ?_) (v_int ?_), rfl⟩ <;> simp [kFold, opCode, hs, hx, hy]
  have HX := Lib.hid hx
  cases bn
  · go_enter Tryd.func29, Tryd.ntmps29
    go_wp2_with (first | (go_at_call 28; refine (ksound_any _ _ _).mono ?_; rintro e w' ⟨rfl, rfl⟩) | (go_at_call 39; refine (kshr_any _ _ _ _ hs _ HX.out a0 a1 b0 b1).mono ?_; rintro e w' ⟨rfl, rfl⟩))
    go_ret3; go_tidy; refine ⟨ret_three (v_bool ?_) (v_int ?_) (v_int ?_), rfl⟩ <;> simp [kFold, opCode, hs, hx, hy]
  · go_enter Tryd.func29, Tryd.ntmps29
    go_wp2_with (first | (go_at_call 28; refine (ksound_any _ _ _).mono ?_; rintro e w' ⟨rfl, rfl⟩) | (go_at_call 39; refine (kshr_any _ _ _ _ hs _ HX.out a0 a1 b0 b1).mono ?_; rintro e w' ⟨rfl, rfl⟩))
    go_ret3; go_tidy; refine ⟨ret_three (v_bool ?_) (v_int ?_) (v_int ?_), rfl⟩ <;> simp [kFold, opCode, hs, hx, hy]
theorem kfold_any (an bn : Bool) (a b : Int) (s : ByteArray) (w : World) (a0 : 0 ≤ a) (a1 : a ≤ 18446744073709551615) (b0 : 0 ≤ b) (b1 : b ≤ 18446744073709551615) :
    Calls Tryd.prog 29 #[.string s, .bool an, .int .u64 a, .bool bn, .int .u64 b] w fun e w' => e = .returned (.tuple #[.bool (kFold (opCode s) an a bn b).1, .int .u64 (kFold (opCode s) an a bn b).2.1, .int .i64 (kFold (opCode s) an a bn b).2.2]) ∧ w = w' := by
  rcases opCode_cases s with hs | hs | hs | hs | hs | hs | hs | hs | hs | hs | hs | ⟨hs1, hs2, hs3, hs4, hs5, hs6, hs7, hs8, hs9, hs10, hs11⟩
  · exact kfold_add an bn a b s hs w a0 a1 b0 b1
  · exact kfold_sub an bn a b s hs w a0 a1 b0 b1
  · exact kfold_mul an bn a b s hs w a0 a1 b0 b1
  · exact kfold_and an bn a b s hs w a0 a1 b0 b1
  · exact kfold_or an bn a b s hs w a0 a1 b0 b1
  · exact kfold_xor an bn a b s hs w a0 a1 b0 b1
  · exact kfold_not an bn a b s hs w a0 a1 b0 b1
  · exact kfold_quo an bn a b s hs w a0 a1 b0 b1
  · exact kfold_rem an bn a b s hs w a0 a1 b0 b1
  · exact kfold_shl an bn a b s hs w a0 a1 b0 b1
  · exact kfold_shr an bn a b s hs w a0 a1 b0 b1
  · go_enter Tryd.func29, Tryd.ntmps29
    go_wp2_with fail
    simp only [beq_eq_false_iff_ne] at hs1 hs2 hs3 hs4 hs5 hs6 hs7 hs8 hs9 hs10 hs11
    go_ret3; go_tidy; refine ⟨ret_three (v_bool ?_) (v_int ?_) (v_int ?_), rfl⟩ <;> simp [kFold, opCode, *]
end Go.Proofs.YtgjfdclmoeellaaDoor
