/- The contract of konst.Compare, for every input within the range of its types. -/
import Derived.Test.YtgjfdclmoeellaaCu
namespace Go.Proofs.Ytgjfdclmoeellaa
open Go.RowKit
set_option linter.unusedSimpArgs false
set_option linter.unusedVariables false

theorem keq (an bn : Bool) (a b : Int) (ha : sound an a = true) (hb : sound bn b = true) (a0 : 0 ≤ a) (b0 : 0 ≤ b) : (an == bn && a == b) = decide (kval an a = kval bn b) := by
  have h1 := kval_pos ha
  have h2 := kval_pos hb
  unfold kval
  cases an <;> cases bn <;> (rw [Bool.eq_iff_iff]; simp at h1 h2 ⊢) <;> omega
theorem kle (an bn : Bool) (a b : Int) : (decide (kval an a < kval bn b) || decide (kval an a = kval bn b)) = decide (kval an a ≤ kval bn b) := by
  rw [Bool.eq_iff_iff]; simp; omega
theorem kgt (an bn : Bool) (a b : Int) : (!decide (kval an a < kval bn b) && !decide (kval an a = kval bn b)) = decide (kval bn b < kval an a) := by
  rw [Bool.eq_iff_iff]; simp; omega
set_option maxHeartbeats 1000000 in
theorem kcmp_eq (an bn : Bool) (a b : Int) (s : ByteArray) (hs : s.toList = [61, 61]) (w : World) (a0 : 0 ≤ a) (a1 : a ≤ 18446744073709551615) (b0 : 0 ≤ b) (b1 : b ≤ 18446744073709551615) :
    Calls Try.prog 40 #[.string s, .bool an, .int .u64 a, .bool bn, .int .u64 b] w fun e w' => e = .returned (.tuple #[.bool (kCmp (cmpCode s) an a bn b), .int .i64 (kCmpErr (cmpCode s) an a bn b)]) ∧ w = w' := by
  have ho : cmpCode s = 1 := by simp [cmpCode, hs]
  cases hx : sound an a
  · go_enter Try.func40, Try.ntmps40
    go_wp2_with (first | (go_at_call 54; refine (ksound_any _ _ _).mono ?_; rintro e w' ⟨rfl, rfl⟩))
    go_ret2; go_tidy; refine ⟨ret_two (v_bool ?_) (v_int ?_), rfl⟩ <;> simp [kCmp, kCmpErr, ho, hx]
  cases hy : sound bn b
  · go_enter Try.func40, Try.ntmps40
    go_wp2_with (first | (go_at_call 54; refine (ksound_any _ _ _).mono ?_; rintro e w' ⟨rfl, rfl⟩))
    go_ret2; go_tidy; refine ⟨ret_two (v_bool ?_) (v_int ?_), rfl⟩ <;> simp [kCmp, kCmpErr, ho, hx, hy]
  have HX := Lib.hid hx
  have HY := Lib.hid hy
  have hk := keq an bn a b hx hy a0 b0
  cases hq : decide (kval an a = kval bn b) <;> cases hl : decide (kval an a < kval bn b) <;> cases hab : (a == b) <;> cases hn : (an == bn)
  all_goals
    simp only [hq, hab, hn] at hk
    first
    | (exfalso; revert hk; decide)
    | (exfalso; simp at hq hl; omega)
    | (go_enter Try.func40, Try.ntmps40
       go_wp2_with (first | (go_at_call 54; refine (ksound_any _ _ _).mono ?_; rintro e w' ⟨rfl, rfl⟩) | (go_at_call 62; refine (kless_any _ _ _ _ _ HX.out HY.out a0 b0).mono ?_; rintro e w' ⟨rfl, rfl⟩))
       go_ret2; go_tidy; refine ⟨ret_two (v_bool ?_) (v_int ?_), rfl⟩ <;> simp only [kCmp, kCmpErr, ho, hx, hy] <;> first | rfl | exact hq.symm | (simp [← kle, ← kgt, hq, hl]; done) | (simp at hq hl ⊢; omega))
set_option maxHeartbeats 1000000 in
theorem kcmp_ne (an bn : Bool) (a b : Int) (s : ByteArray) (hs : s.toList = [33, 61]) (w : World) (a0 : 0 ≤ a) (a1 : a ≤ 18446744073709551615) (b0 : 0 ≤ b) (b1 : b ≤ 18446744073709551615) :
    Calls Try.prog 40 #[.string s, .bool an, .int .u64 a, .bool bn, .int .u64 b] w fun e w' => e = .returned (.tuple #[.bool (kCmp (cmpCode s) an a bn b), .int .i64 (kCmpErr (cmpCode s) an a bn b)]) ∧ w = w' := by
  have ho : cmpCode s = 2 := by simp [cmpCode, hs]
  cases hx : sound an a
  · go_enter Try.func40, Try.ntmps40
    go_wp2_with (first | (go_at_call 54; refine (ksound_any _ _ _).mono ?_; rintro e w' ⟨rfl, rfl⟩))
    go_ret2; go_tidy; refine ⟨ret_two (v_bool ?_) (v_int ?_), rfl⟩ <;> simp [kCmp, kCmpErr, ho, hx]
  cases hy : sound bn b
  · go_enter Try.func40, Try.ntmps40
    go_wp2_with (first | (go_at_call 54; refine (ksound_any _ _ _).mono ?_; rintro e w' ⟨rfl, rfl⟩))
    go_ret2; go_tidy; refine ⟨ret_two (v_bool ?_) (v_int ?_), rfl⟩ <;> simp [kCmp, kCmpErr, ho, hx, hy]
  have HX := Lib.hid hx
  have HY := Lib.hid hy
  have hk := keq an bn a b hx hy a0 b0
  cases hq : decide (kval an a = kval bn b) <;> cases hl : decide (kval an a < kval bn b) <;> cases hab : (a == b) <;> cases hn : (an == bn)
  all_goals
    simp only [hq, hab, hn] at hk
    first
    | (exfalso; revert hk; decide)
    | (exfalso; simp at hq hl; omega)
    | (go_enter Try.func40, Try.ntmps40
       go_wp2_with (first | (go_at_call 54; refine (ksound_any _ _ _).mono ?_; rintro e w' ⟨rfl, rfl⟩) | (go_at_call 62; refine (kless_any _ _ _ _ _ HX.out HY.out a0 b0).mono ?_; rintro e w' ⟨rfl, rfl⟩))
       go_ret2; go_tidy; refine ⟨ret_two (v_bool ?_) (v_int ?_), rfl⟩ <;> simp only [kCmp, kCmpErr, ho, hx, hy] <;> first | rfl | exact hq.symm | (simp [← kle, ← kgt, hq, hl]; done) | (simp at hq hl ⊢; omega))
set_option maxHeartbeats 1000000 in
theorem kcmp_lt (an bn : Bool) (a b : Int) (s : ByteArray) (hs : s.toList = [60]) (w : World) (a0 : 0 ≤ a) (a1 : a ≤ 18446744073709551615) (b0 : 0 ≤ b) (b1 : b ≤ 18446744073709551615) :
    Calls Try.prog 40 #[.string s, .bool an, .int .u64 a, .bool bn, .int .u64 b] w fun e w' => e = .returned (.tuple #[.bool (kCmp (cmpCode s) an a bn b), .int .i64 (kCmpErr (cmpCode s) an a bn b)]) ∧ w = w' := by
  have ho : cmpCode s = 3 := by simp [cmpCode, hs]
  cases hx : sound an a
  · go_enter Try.func40, Try.ntmps40
    go_wp2_with (first | (go_at_call 54; refine (ksound_any _ _ _).mono ?_; rintro e w' ⟨rfl, rfl⟩))
    go_ret2; go_tidy; refine ⟨ret_two (v_bool ?_) (v_int ?_), rfl⟩ <;> simp [kCmp, kCmpErr, ho, hx]
  cases hy : sound bn b
  · go_enter Try.func40, Try.ntmps40
    go_wp2_with (first | (go_at_call 54; refine (ksound_any _ _ _).mono ?_; rintro e w' ⟨rfl, rfl⟩))
    go_ret2; go_tidy; refine ⟨ret_two (v_bool ?_) (v_int ?_), rfl⟩ <;> simp [kCmp, kCmpErr, ho, hx, hy]
  have HX := Lib.hid hx
  have HY := Lib.hid hy
  have hk := keq an bn a b hx hy a0 b0
  cases hq : decide (kval an a = kval bn b) <;> cases hl : decide (kval an a < kval bn b) <;> cases hab : (a == b) <;> cases hn : (an == bn)
  all_goals
    simp only [hq, hab, hn] at hk
    first
    | (exfalso; revert hk; decide)
    | (exfalso; simp at hq hl; omega)
    | (go_enter Try.func40, Try.ntmps40
       go_wp2_with (first | (go_at_call 54; refine (ksound_any _ _ _).mono ?_; rintro e w' ⟨rfl, rfl⟩) | (go_at_call 62; refine (kless_any _ _ _ _ _ HX.out HY.out a0 b0).mono ?_; rintro e w' ⟨rfl, rfl⟩))
       go_ret2; go_tidy; refine ⟨ret_two (v_bool ?_) (v_int ?_), rfl⟩ <;> simp only [kCmp, kCmpErr, ho, hx, hy] <;> first | rfl | exact hq.symm | (simp [← kle, ← kgt, hq, hl]; done) | (simp at hq hl ⊢; omega))
set_option maxHeartbeats 1000000 in
theorem kcmp_le (an bn : Bool) (a b : Int) (s : ByteArray) (hs : s.toList = [60, 61]) (w : World) (a0 : 0 ≤ a) (a1 : a ≤ 18446744073709551615) (b0 : 0 ≤ b) (b1 : b ≤ 18446744073709551615) :
    Calls Try.prog 40 #[.string s, .bool an, .int .u64 a, .bool bn, .int .u64 b] w fun e w' => e = .returned (.tuple #[.bool (kCmp (cmpCode s) an a bn b), .int .i64 (kCmpErr (cmpCode s) an a bn b)]) ∧ w = w' := by
  have ho : cmpCode s = 4 := by simp [cmpCode, hs]
  cases hx : sound an a
  · go_enter Try.func40, Try.ntmps40
    go_wp2_with (first | (go_at_call 54; refine (ksound_any _ _ _).mono ?_; rintro e w' ⟨rfl, rfl⟩))
    go_ret2; go_tidy; refine ⟨ret_two (v_bool ?_) (v_int ?_), rfl⟩ <;> simp [kCmp, kCmpErr, ho, hx]
  cases hy : sound bn b
  · go_enter Try.func40, Try.ntmps40
    go_wp2_with (first | (go_at_call 54; refine (ksound_any _ _ _).mono ?_; rintro e w' ⟨rfl, rfl⟩))
    go_ret2; go_tidy; refine ⟨ret_two (v_bool ?_) (v_int ?_), rfl⟩ <;> simp [kCmp, kCmpErr, ho, hx, hy]
  have HX := Lib.hid hx
  have HY := Lib.hid hy
  have hk := keq an bn a b hx hy a0 b0
  cases hq : decide (kval an a = kval bn b) <;> cases hl : decide (kval an a < kval bn b) <;> cases hab : (a == b) <;> cases hn : (an == bn)
  all_goals
    simp only [hq, hab, hn] at hk
    first
    | (exfalso; revert hk; decide)
    | (exfalso; simp at hq hl; omega)
    | (go_enter Try.func40, Try.ntmps40
       go_wp2_with (first | (go_at_call 54; refine (ksound_any _ _ _).mono ?_; rintro e w' ⟨rfl, rfl⟩) | (go_at_call 62; refine (kless_any _ _ _ _ _ HX.out HY.out a0 b0).mono ?_; rintro e w' ⟨rfl, rfl⟩))
       go_ret2; go_tidy; refine ⟨ret_two (v_bool ?_) (v_int ?_), rfl⟩ <;> simp only [kCmp, kCmpErr, ho, hx, hy] <;> first | rfl | exact hq.symm | (simp [← kle, ← kgt, hq, hl]; done) | (simp at hq hl ⊢; omega))
set_option maxHeartbeats 1000000 in
theorem kcmp_gt (an bn : Bool) (a b : Int) (s : ByteArray) (hs : s.toList = [62]) (w : World) (a0 : 0 ≤ a) (a1 : a ≤ 18446744073709551615) (b0 : 0 ≤ b) (b1 : b ≤ 18446744073709551615) :
    Calls Try.prog 40 #[.string s, .bool an, .int .u64 a, .bool bn, .int .u64 b] w fun e w' => e = .returned (.tuple #[.bool (kCmp (cmpCode s) an a bn b), .int .i64 (kCmpErr (cmpCode s) an a bn b)]) ∧ w = w' := by
  have ho : cmpCode s = 5 := by simp [cmpCode, hs]
  cases hx : sound an a
  · go_enter Try.func40, Try.ntmps40
    go_wp2_with (first | (go_at_call 54; refine (ksound_any _ _ _).mono ?_; rintro e w' ⟨rfl, rfl⟩))
    go_ret2; go_tidy; refine ⟨ret_two (v_bool ?_) (v_int ?_), rfl⟩ <;> simp [kCmp, kCmpErr, ho, hx]
  cases hy : sound bn b
  · go_enter Try.func40, Try.ntmps40
    go_wp2_with (first | (go_at_call 54; refine (ksound_any _ _ _).mono ?_; rintro e w' ⟨rfl, rfl⟩))
    go_ret2; go_tidy; refine ⟨ret_two (v_bool ?_) (v_int ?_), rfl⟩ <;> simp [kCmp, kCmpErr, ho, hx, hy]
  have HX := Lib.hid hx
  have HY := Lib.hid hy
  have hk := keq an bn a b hx hy a0 b0
  cases hq : decide (kval an a = kval bn b) <;> cases hl : decide (kval an a < kval bn b) <;> cases hab : (a == b) <;> cases hn : (an == bn)
  all_goals
    simp only [hq, hab, hn] at hk
    first
    | (exfalso; revert hk; decide)
    | (exfalso; simp at hq hl; omega)
    | (go_enter Try.func40, Try.ntmps40
       go_wp2_with (first | (go_at_call 54; refine (ksound_any _ _ _).mono ?_; rintro e w' ⟨rfl, rfl⟩) | (go_at_call 62; refine (kless_any _ _ _ _ _ HX.out HY.out a0 b0).mono ?_; rintro e w' ⟨rfl, rfl⟩))
       go_ret2; go_tidy; refine ⟨ret_two (v_bool ?_) (v_int ?_), rfl⟩ <;> simp only [kCmp, kCmpErr, ho, hx, hy] <;> first | rfl | exact hq.symm | (simp [← kle, ← kgt, hq, hl]; done) | (simp at hq hl ⊢; omega))
set_option maxHeartbeats 1000000 in
theorem kcmp_ge (an bn : Bool) (a b : Int) (s : ByteArray) (hs : s.toList = [62, 61]) (w : World) (a0 : 0 ≤ a) (a1 : a ≤ 18446744073709551615) (b0 : 0 ≤ b) (b1 : b ≤ 18446744073709551615) :
    Calls Try.prog 40 #[.string s, .bool an, .int .u64 a, .bool bn, .int .u64 b] w fun e w' => e = .returned (.tuple #[.bool (kCmp (cmpCode s) an a bn b), .int .i64 (kCmpErr (cmpCode s) an a bn b)]) ∧ w = w' := by
  have ho : cmpCode s = 6 := by simp [cmpCode, hs]
  cases hx : sound an a
  · go_enter Try.func40, Try.ntmps40
    go_wp2_with (first | (go_at_call 54; refine (ksound_any _ _ _).mono ?_; rintro e w' ⟨rfl, rfl⟩))
    go_ret2; go_tidy; refine ⟨ret_two (v_bool ?_) (v_int ?_), rfl⟩ <;> simp [kCmp, kCmpErr, ho, hx]
  cases hy : sound bn b
  · go_enter Try.func40, Try.ntmps40
    go_wp2_with (first | (go_at_call 54; refine (ksound_any _ _ _).mono ?_; rintro e w' ⟨rfl, rfl⟩))
    go_ret2; go_tidy; refine ⟨ret_two (v_bool ?_) (v_int ?_), rfl⟩ <;> simp [kCmp, kCmpErr, ho, hx, hy]
  have HX := Lib.hid hx
  have HY := Lib.hid hy
  have hk := keq an bn a b hx hy a0 b0
  cases hq : decide (kval an a = kval bn b) <;> cases hl : decide (kval an a < kval bn b) <;> cases hab : (a == b) <;> cases hn : (an == bn)
  all_goals
    simp only [hq, hab, hn] at hk
    first
    | (exfalso; revert hk; decide)
    | (exfalso; simp at hq hl; omega)
    | (go_enter Try.func40, Try.ntmps40
       go_wp2_with (first | (go_at_call 54; refine (ksound_any _ _ _).mono ?_; rintro e w' ⟨rfl, rfl⟩) | (go_at_call 62; refine (kless_any _ _ _ _ _ HX.out HY.out a0 b0).mono ?_; rintro e w' ⟨rfl, rfl⟩))
       go_ret2; go_tidy; refine ⟨ret_two (v_bool ?_) (v_int ?_), rfl⟩ <;> simp only [kCmp, kCmpErr, ho, hx, hy] <;> first | rfl | exact hq.symm | (simp [← kle, ← kgt, hq, hl]; done) | (simp at hq hl ⊢; omega))
theorem kcompare_any (an bn : Bool) (a b : Int) (s : ByteArray) (w : World) (a0 : 0 ≤ a) (a1 : a ≤ 18446744073709551615) (b0 : 0 ≤ b) (b1 : b ≤ 18446744073709551615) :
    Calls Try.prog 40 #[.string s, .bool an, .int .u64 a, .bool bn, .int .u64 b] w fun e w' => e = .returned (.tuple #[.bool (kCmp (cmpCode s) an a bn b), .int .i64 (kCmpErr (cmpCode s) an a bn b)]) ∧ w = w' := by
  rcases cmpCode_cases s with hs | hs | hs | hs | hs | hs | ⟨hs1, hs2, hs3, hs4, hs5, hs6⟩
  · exact kcmp_eq an bn a b s hs w a0 a1 b0 b1
  · exact kcmp_ne an bn a b s hs w a0 a1 b0 b1
  · exact kcmp_lt an bn a b s hs w a0 a1 b0 b1
  · exact kcmp_le an bn a b s hs w a0 a1 b0 b1
  · exact kcmp_gt an bn a b s hs w a0 a1 b0 b1
  · exact kcmp_ge an bn a b s hs w a0 a1 b0 b1
  · go_enter Try.func40, Try.ntmps40
    go_wp2_with fail
    simp only [beq_eq_false_iff_ne] at hs1 hs2 hs3 hs4 hs5 hs6
    have ho : cmpCode s = 0 := by simp [cmpCode, *]
    go_ret2; go_tidy; refine ⟨ret_two (v_bool ?_) (v_int ?_), rfl⟩ <;> simp [kCmp, kCmpErr, ho]
end Go.Proofs.Ytgjfdclmoeellaa
