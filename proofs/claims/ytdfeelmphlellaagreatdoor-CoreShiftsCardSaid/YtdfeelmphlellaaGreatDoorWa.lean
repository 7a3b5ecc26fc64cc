/- Contracts of the functions of package word that Arith needs: what each returns for every input within the range of its types, and that it leaves memory as it was. -/
import Derived.Test.YtdfeelmphlellaaGreatDoorChecked
import Derived.Test.YtdfeelmphlellaaGreatDoorPa
import Derived.Test.YtdfeelmphlellaaGreatDoorQ
namespace Go.Proofs.YtdfeelmphlellaaGreatDoor
open Go.RowKit
set_option linter.unusedSimpArgs false
set_option linter.unusedVariables false

theorem whole_any (k : Int) (w : World) : Calls Tryz.prog 27 #[.int .i64 k] w fun e w' => e = .returned (.bool (isW k)) ∧ w = w' := by
  go_enter Tryz.func27, Tryz.ntmps27
  go_wp2
  all_goals (go_ret; refine ⟨ret_bool ?_, rfl⟩; simp [isW]; omega)

theorem wrap_any (k n : Int) (w : World) : Calls Tryz.prog 28 #[.int .i64 k, .int .u64 n] w fun e w' => e = .returned (.int .u64 (wrapW k n)) ∧ w = w' := by
  go_enter Tryz.func28, Tryz.ntmps28
  go_wp2
  all_goals (go_ret; go_tidy; refine ⟨ret_u64 ?_, rfl⟩; simp_all [wrapW, wrap32, IntKind.wrap, IntKind.bits, IntKind.signed])
  split <;> omega

theorem signed_any (k : Int) (w : World) (h1 : -9223372036854775808 ≤ k) (h2 : k ≤ 9223372036854775807): Calls Tryz.prog 125 #[.int .i64 k] w fun e w' => e = .returned (.tuple #[.bool (sgnW k), .int .i64 (errW k)]) ∧ w = w' := by
  by_cases hk : 2 ≤ k ∧ k ≤ 7
  · have hw : isW k = true := by simp [isW]; omega
    obtain ⟨hk1, hk2⟩ := hk
    go_enter Tryz.func125, Tryz.ntmps125
    go_wp2_with (go_at_call 27; refine (whole_any _ _).mono ?_; rintro e w' ⟨rfl, rfl⟩)
    all_goals (go_ret2; go_tidy; refine ⟨ret_two (v_bool ?_) (v_int ?_), rfl⟩)
    · simp [sgnW, hw]; rfl
    · simp [errW, hw]
  · have hw : isW k = false := by simp [isW]; omega
    clear hk
    go_enter Tryz.func125, Tryz.ntmps125
    go_wp2_with (go_at_call 27; refine (whole_any _ _).mono ?_; rintro e w' ⟨rfl, rfl⟩)
    all_goals (go_ret2; go_tidy; refine ⟨ret_two (v_bool ?_) (v_int ?_), rfl⟩)
    · simp [sgnW, hw]
    · simp [errW, hw]

theorem is_any (k n : Int) (w : World) : Calls Tryz.prog 18 #[.int .i64 k, .int .u64 n] w fun e w' => e = .returned (.bool (inW k n)) ∧ w = w' := by
  go_enter Tryz.func18, Tryz.ntmps18
  go_wp2_with (first | (go_at_call 27; refine (whole_any _ _).mono ?_; rintro e w' ⟨rfl, rfl⟩) | (go_at_call 28; refine (wrap_any _ _ _).mono ?_; rintro e w' ⟨rfl, rfl⟩))
  all_goals (go_ret; go_tidy; refine ⟨ret_bool ?_, rfl⟩; simp_all [inW])

theorem check0 (k : Int) (w : World) : Calls Tryz.prog 124 #[.int .i64 k, .slice none 0 0] w fun e w' => e = .returned (.int .i64 (checkW k [])) ∧ w = w' := by
  go_enter Tryz.func124, Tryz.ntmps124
  go_wp2_with (first | (go_at_call 27; refine (whole_any _ _).mono ?_; rintro e w' ⟨rfl, rfl⟩))
  · go_ret; go_tidy; refine ⟨ret_u64 ?_, rfl⟩; simp_all [checkW]
  · refine wp_loop_rounds 1 ?_
    rw [rounds_succ]
    go_wp2
    go_ret; go_tidy; refine ⟨ret_u64 ?_, rfl⟩; simp_all [checkW]
theorem check1 (k x : Int) (b o c : Nat) (w : World) (h : w.cell? ⟨b, o, none⟩ = some (.int .u64 x)) : Calls Tryz.prog 124 #[.int .i64 k, .slice (some ⟨b, o, none⟩) 1 c] w fun e w' => e = .returned (.int .i64 (checkW k [x])) ∧ w = w' := by
  go_enter Tryz.func124, Tryz.ntmps124
  go_wp2_with (first | (go_at_call 27; refine (whole_any _ _).mono ?_; rintro e w' ⟨rfl, rfl⟩))
  · go_ret; go_tidy; refine ⟨ret_u64 ?_, rfl⟩; simp_all [checkW]
  · refine wp_loop_rounds 2 ?_
    rw [rounds_succ]
    go_wp2_with (first | (go_at_call 18; refine (is_any _ _ _).mono ?_; rintro e w' ⟨rfl, rfl⟩))
    · go_ret; go_tidy; refine ⟨ret_u64 ?_, rfl⟩; simp_all [checkW]
    · rw [rounds_succ]
      go_wp2
      go_ret; go_tidy; refine ⟨ret_u64 ?_, rfl⟩; simp_all [checkW]
theorem check2 (k x y : Int) (b o c : Nat) (w : World) (h : w.cell? ⟨b, o, none⟩ = some (.int .u64 x)) (h' : w.cell? ⟨b, o + 1, none⟩ = some (.int .u64 y)) : Calls Tryz.prog 124 #[.int .i64 k, .slice (some ⟨b, o, none⟩) 2 c] w fun e w' => e = .returned (.int .i64 (checkW k [x, y])) ∧ w = w' := by
  go_enter Tryz.func124, Tryz.ntmps124
  go_wp2_with (first | (go_at_call 27; refine (whole_any _ _).mono ?_; rintro e w' ⟨rfl, rfl⟩))
  · go_ret; go_tidy; refine ⟨ret_u64 ?_, rfl⟩; simp_all [checkW]
  · refine wp_loop_rounds 3 ?_
    rw [rounds_succ]
    go_wp2_with (first | (go_at_call 18; refine (is_any _ _ _).mono ?_; rintro e w' ⟨rfl, rfl⟩))
    · go_ret; go_tidy; refine ⟨ret_u64 ?_, rfl⟩; simp_all [checkW]
    · rw [rounds_succ]
      go_wp2_with (first | (go_at_call 18; refine (is_any _ _ _).mono ?_; rintro e w' ⟨rfl, rfl⟩))
      · go_ret; go_tidy; refine ⟨ret_u64 ?_, rfl⟩; simp_all [checkW]
      · rw [rounds_succ]
        go_wp2
        go_ret; go_tidy; refine ⟨ret_u64 ?_, rfl⟩; simp_all [checkW]
theorem wrap64_ne (b : Int) (h0 : 0 < b) (h1 : b < 18446744073709551616) : ¬ wrap64 b = 0 := by unfold wrap64; omega
theorem wrap64_mod (b : Int) : wrap64 b % 18446744073709551616 = b % 18446744073709551616 := by unfold wrap64; omega
theorem divide_any (k a b : Int) (s : ByteArray) (hs : s.toList = [47]) (w : World) (h1 : -9223372036854775808 ≤ k) (h2 : k ≤ 9223372036854775807) (ha : 0 ≤ a) (ha2 : a ≤ 18446744073709551615) (hb : 0 < b) (hb2 : b ≤ 18446744073709551615) : Calls Tryz.prog 128 #[.int .i64 k, .string s, .int .u64 a, .int .u64 b] w fun e w' => e = .returned (.int .u64 (rawW k 4 a b)) ∧ w = w' := by
  have hz := wrap64_ne b hb (by omega)
  have hb' : ¬ b = 0 := by omega
  have hq : a / b ≤ a := Int.ediv_le_self _ ha
  have hq0 : 0 ≤ a / b := Int.ediv_nonneg ha (by omega)
  cases hg : sgnW k
  · go_enter Tryz.func128, Tryz.ntmps128
    go_wp2_with (first | (go_at_call 125; refine (signed_any _ _ (by omega) (by omega)).mono ?_; rintro e w' ⟨rfl, rfl⟩))
    go_ret; go_tidy; refine ⟨ret_u64 ?_, rfl⟩
    simp only [rawW, sval, hg, Bool.false_eq_true, if_false]
    rw [Int.tdiv_eq_ediv_of_nonneg ha]; omega
  · go_enter Tryz.func128, Tryz.ntmps128
    go_wp2_with (first | (go_at_call 125; refine (signed_any _ _ (by omega) (by omega)).mono ?_; rintro e w' ⟨rfl, rfl⟩))
    go_ret; go_tidy; refine ⟨ret_u64 ?_, rfl⟩
    simp only [rawW, sval, hg, if_true, IntKind.wrap_u64, wrap64_mod]
theorem rem_any (k a b : Int) (s : ByteArray) (hs : s.toList = [37]) (w : World) (h1 : -9223372036854775808 ≤ k) (h2 : k ≤ 9223372036854775807) (ha : 0 ≤ a) (ha2 : a ≤ 18446744073709551615) (hb : 0 < b) (hb2 : b ≤ 18446744073709551615) : Calls Tryz.prog 128 #[.int .i64 k, .string s, .int .u64 a, .int .u64 b] w fun e w' => e = .returned (.int .u64 (rawW k 5 a b)) ∧ w = w' := by
  have hz := wrap64_ne b hb (by omega)
  have hb' : ¬ b = 0 := by omega
  have hq : a % b < b := Int.emod_lt_of_pos _ hb
  have hq0 : 0 ≤ a % b := Int.emod_nonneg _ hb'
  cases hg : sgnW k
  · go_enter Tryz.func128, Tryz.ntmps128
    go_wp2_with (first | (go_at_call 125; refine (signed_any _ _ (by omega) (by omega)).mono ?_; rintro e w' ⟨rfl, rfl⟩))
    go_ret; go_tidy; refine ⟨ret_u64 ?_, rfl⟩
    simp only [rawW, sval, hg, Bool.false_eq_true, if_false]
    rw [Int.tmod_eq_emod_of_nonneg ha]; omega
  · go_enter Tryz.func128, Tryz.ntmps128
    go_wp2_with (first | (go_at_call 125; refine (signed_any _ _ (by omega) (by omega)).mono ?_; rintro e w' ⟨rfl, rfl⟩))
    go_ret; go_tidy; refine ⟨ret_u64 ?_, rfl⟩
    simp only [rawW, sval, hg, if_true, IntKind.wrap_u64]
set_option maxHeartbeats 400000 in
theorem arith_add (k a b : Int) (s : ByteArray) (hs : s.toList = [43]) (w : World) (h1 : -9223372036854775808 ≤ k) (h2 : k ≤ 9223372036854775807) (ha : 0 ≤ a) (ha2 : a ≤ 18446744073709551615) (hb : 0 ≤ b) (hb2 : b ≤ 18446744073709551615) :
  Calls Tryz.prog 84 #[.int .i64 k, .string s, .int .u64 a, .int .u64 b] w fun e w' => e = .returned (.tuple #[.int .u64 (arithW k (opCode s) a b), .int .i64 (arithErr k (opCode s) a b)]) ∧ Below w.heap.size w w' := by
  by_cases he : checkW k [a, b] = 0
  · go_enter Tryz.func84, Tryz.ntmps84
    go_wp2_with (first | (go_at_call 124; refine (check2 _ a b _ _ _ _ (by simp) (by simp)).mono ?_; rintro e w' ⟨rfl, rfl⟩) | (go_at_call 28; refine (wrap_any _ _ _).mono ?_; rintro e w' ⟨rfl, rfl⟩))
    go_ret2; go_tidy; refine ⟨ret_two (v_int ?_) (v_int ?_), (Below.refl _ _).alloc (Nat.le_refl _) _⟩
    · simp [arithW, arithErr, opCode, hs, he, resW, rawW, IntKind.wrap_u64]
    · simp [arithErr, opCode, hs, he]
  · have hn : (checkW k [a, b] != 0) = true := by simp [he]
    go_enter Tryz.func84, Tryz.ntmps84
    go_wp2_with (first | (go_at_call 124; refine (check2 _ a b _ _ _ _ (by simp) (by simp)).mono ?_; rintro e w' ⟨rfl, rfl⟩) | (go_at_call 28; refine (wrap_any _ _ _).mono ?_; rintro e w' ⟨rfl, rfl⟩))
    go_ret2; go_tidy; refine ⟨ret_two (v_int ?_) (v_int ?_), (Below.refl _ _).alloc (Nat.le_refl _) _⟩
    · simp [arithW, arithErr, opCode, hs, he, resW]
    · simp [arithErr, opCode, hs, he]
set_option maxHeartbeats 400000 in
theorem arith_sub (k a b : Int) (s : ByteArray) (hs : s.toList = [45]) (w : World) (h1 : -9223372036854775808 ≤ k) (h2 : k ≤ 9223372036854775807) (ha : 0 ≤ a) (ha2 : a ≤ 18446744073709551615) (hb : 0 ≤ b) (hb2 : b ≤ 18446744073709551615) :
  Calls Tryz.prog 84 #[.int .i64 k, .string s, .int .u64 a, .int .u64 b] w fun e w' => e = .returned (.tuple #[.int .u64 (arithW k (opCode s) a b), .int .i64 (arithErr k (opCode s) a b)]) ∧ Below w.heap.size w w' := by
  by_cases he : checkW k [a, b] = 0
  · go_enter Tryz.func84, Tryz.ntmps84
    go_wp2_with (first | (go_at_call 124; refine (check2 _ a b _ _ _ _ (by simp) (by simp)).mono ?_; rintro e w' ⟨rfl, rfl⟩) | (go_at_call 28; refine (wrap_any _ _ _).mono ?_; rintro e w' ⟨rfl, rfl⟩))
    go_ret2; go_tidy; refine ⟨ret_two (v_int ?_) (v_int ?_), (Below.refl _ _).alloc (Nat.le_refl _) _⟩
    · simp [arithW, arithErr, opCode, hs, he, resW, rawW, IntKind.wrap_u64]
    · simp [arithErr, opCode, hs, he]
  · have hn : (checkW k [a, b] != 0) = true := by simp [he]
    go_enter Tryz.func84, Tryz.ntmps84
    go_wp2_with (first | (go_at_call 124; refine (check2 _ a b _ _ _ _ (by simp) (by simp)).mono ?_; rintro e w' ⟨rfl, rfl⟩) | (go_at_call 28; refine (wrap_any _ _ _).mono ?_; rintro e w' ⟨rfl, rfl⟩))
    go_ret2; go_tidy; refine ⟨ret_two (v_int ?_) (v_int ?_), (Below.refl _ _).alloc (Nat.le_refl _) _⟩
    · simp [arithW, arithErr, opCode, hs, he, resW]
    · simp [arithErr, opCode, hs, he]
set_option maxHeartbeats 400000 in
theorem arith_mul (k a b : Int) (s : ByteArray) (hs : s.toList = [42]) (w : World) (h1 : -9223372036854775808 ≤ k) (h2 : k ≤ 9223372036854775807) (ha : 0 ≤ a) (ha2 : a ≤ 18446744073709551615) (hb : 0 ≤ b) (hb2 : b ≤ 18446744073709551615) :
  Calls Tryz.prog 84 #[.int .i64 k, .string s, .int .u64 a, .int .u64 b] w fun e w' => e = .returned (.tuple #[.int .u64 (arithW k (opCode s) a b), .int .i64 (arithErr k (opCode s) a b)]) ∧ Below w.heap.size w w' := by
  by_cases he : checkW k [a, b] = 0
  · go_enter Tryz.func84, Tryz.ntmps84
    go_wp2_with (first | (go_at_call 124; refine (check2 _ a b _ _ _ _ (by simp) (by simp)).mono ?_; rintro e w' ⟨rfl, rfl⟩) | (go_at_call 28; refine (wrap_any _ _ _).mono ?_; rintro e w' ⟨rfl, rfl⟩))
    go_ret2; go_tidy; refine ⟨ret_two (v_int ?_) (v_int ?_), (Below.refl _ _).alloc (Nat.le_refl _) _⟩
    · simp [arithW, arithErr, opCode, hs, he, resW, rawW, IntKind.wrap_u64]
    · simp [arithErr, opCode, hs, he]
  · have hn : (checkW k [a, b] != 0) = true := by simp [he]
    go_enter Tryz.func84, Tryz.ntmps84
    go_wp2_with (first | (go_at_call 124; refine (check2 _ a b _ _ _ _ (by simp) (by simp)).mono ?_; rintro e w' ⟨rfl, rfl⟩) | (go_at_call 28; refine (wrap_any _ _ _).mono ?_; rintro e w' ⟨rfl, rfl⟩))
    go_ret2; go_tidy; refine ⟨ret_two (v_int ?_) (v_int ?_), (Below.refl _ _).alloc (Nat.le_refl _) _⟩
    · simp [arithW, arithErr, opCode, hs, he, resW]
    · simp [arithErr, opCode, hs, he]
set_option maxHeartbeats 400000 in
theorem arith_and (k a b : Int) (s : ByteArray) (hs : s.toList = [38]) (w : World) (h1 : -9223372036854775808 ≤ k) (h2 : k ≤ 9223372036854775807) (ha : 0 ≤ a) (ha2 : a ≤ 18446744073709551615) (hb : 0 ≤ b) (hb2 : b ≤ 18446744073709551615) :
  Calls Tryz.prog 84 #[.int .i64 k, .string s, .int .u64 a, .int .u64 b] w fun e w' => e = .returned (.tuple #[.int .u64 (arithW k (opCode s) a b), .int .i64 (arithErr k (opCode s) a b)]) ∧ Below w.heap.size w w' := by
  by_cases he : checkW k [a, b] = 0
  · go_enter Tryz.func84, Tryz.ntmps84
    go_wp2_with (first | (go_at_call 124; refine (check2 _ a b _ _ _ _ (by simp) (by simp)).mono ?_; rintro e w' ⟨rfl, rfl⟩) | (go_at_call 28; refine (wrap_any _ _ _).mono ?_; rintro e w' ⟨rfl, rfl⟩))
    go_ret2; go_tidy; refine ⟨ret_two (v_int ?_) (v_int ?_), (Below.refl _ _).alloc (Nat.le_refl _) _⟩
    · simp [arithW, arithErr, opCode, hs, he, resW, rawW, IntKind.wrap_u64]
    · simp [arithErr, opCode, hs, he]
  · have hn : (checkW k [a, b] != 0) = true := by simp [he]
    go_enter Tryz.func84, Tryz.ntmps84
    go_wp2_with (first | (go_at_call 124; refine (check2 _ a b _ _ _ _ (by simp) (by simp)).mono ?_; rintro e w' ⟨rfl, rfl⟩) | (go_at_call 28; refine (wrap_any _ _ _).mono ?_; rintro e w' ⟨rfl, rfl⟩))
    go_ret2; go_tidy; refine ⟨ret_two (v_int ?_) (v_int ?_), (Below.refl _ _).alloc (Nat.le_refl _) _⟩
    · simp [arithW, arithErr, opCode, hs, he, resW]
    · simp [arithErr, opCode, hs, he]
set_option maxHeartbeats 400000 in
theorem arith_or (k a b : Int) (s : ByteArray) (hs : s.toList = [124]) (w : World) (h1 : -9223372036854775808 ≤ k) (h2 : k ≤ 9223372036854775807) (ha : 0 ≤ a) (ha2 : a ≤ 18446744073709551615) (hb : 0 ≤ b) (hb2 : b ≤ 18446744073709551615) :
  Calls Tryz.prog 84 #[.int .i64 k, .string s, .int .u64 a, .int .u64 b] w fun e w' => e = .returned (.tuple #[.int .u64 (arithW k (opCode s) a b), .int .i64 (arithErr k (opCode s) a b)]) ∧ Below w.heap.size w w' := by
  by_cases he : checkW k [a, b] = 0
  · go_enter Tryz.func84, Tryz.ntmps84
    go_wp2_with (first | (go_at_call 124; refine (check2 _ a b _ _ _ _ (by simp) (by simp)).mono ?_; rintro e w' ⟨rfl, rfl⟩) | (go_at_call 28; refine (wrap_any _ _ _).mono ?_; rintro e w' ⟨rfl, rfl⟩))
    go_ret2; go_tidy; refine ⟨ret_two (v_int ?_) (v_int ?_), (Below.refl _ _).alloc (Nat.le_refl _) _⟩
    · simp [arithW, arithErr, opCode, hs, he, resW, rawW, IntKind.wrap_u64]
    · simp [arithErr, opCode, hs, he]
  · have hn : (checkW k [a, b] != 0) = true := by simp [he]
    go_enter Tryz.func84, Tryz.ntmps84
    go_wp2_with (first | (go_at_call 124; refine (check2 _ a b _ _ _ _ (by simp) (by simp)).mono ?_; rintro e w' ⟨rfl, rfl⟩) | (go_at_call 28; refine (wrap_any _ _ _).mono ?_; rintro e w' ⟨rfl, rfl⟩))
    go_ret2; go_tidy; refine ⟨ret_two (v_int ?_) (v_int ?_), (Below.refl _ _).alloc (Nat.le_refl _) _⟩
    · simp [arithW, arithErr, opCode, hs, he, resW]
    · simp [arithErr, opCode, hs, he]
set_option maxHeartbeats 400000 in
theorem arith_xor (k a b : Int) (s : ByteArray) (hs : s.toList = [94]) (w : World) (h1 : -9223372036854775808 ≤ k) (h2 : k ≤ 9223372036854775807) (ha : 0 ≤ a) (ha2 : a ≤ 18446744073709551615) (hb : 0 ≤ b) (hb2 : b ≤ 18446744073709551615) :
  Calls Tryz.prog 84 #[.int .i64 k, .string s, .int .u64 a, .int .u64 b] w fun e w' => e = .returned (.tuple #[.int .u64 (arithW k (opCode s) a b), .int .i64 (arithErr k (opCode s) a b)]) ∧ Below w.heap.size w w' := by
  by_cases he : checkW k [a, b] = 0
  · go_enter Tryz.func84, Tryz.ntmps84
    go_wp2_with (first | (go_at_call 124; refine (check2 _ a b _ _ _ _ (by simp) (by simp)).mono ?_; rintro e w' ⟨rfl, rfl⟩) | (go_at_call 28; refine (wrap_any _ _ _).mono ?_; rintro e w' ⟨rfl, rfl⟩))
    go_ret2; go_tidy; refine ⟨ret_two (v_int ?_) (v_int ?_), (Below.refl _ _).alloc (Nat.le_refl _) _⟩
    · simp [arithW, arithErr, opCode, hs, he, resW, rawW, IntKind.wrap_u64]
    · simp [arithErr, opCode, hs, he]
  · have hn : (checkW k [a, b] != 0) = true := by simp [he]
    go_enter Tryz.func84, Tryz.ntmps84
    go_wp2_with (first | (go_at_call 124; refine (check2 _ a b _ _ _ _ (by simp) (by simp)).mono ?_; rintro e w' ⟨rfl, rfl⟩) | (go_at_call 28; refine (wrap_any _ _ _).mono ?_; rintro e w' ⟨rfl, rfl⟩))
    go_ret2; go_tidy; refine ⟨ret_two (v_int ?_) (v_int ?_), (Below.refl _ _).alloc (Nat.le_refl _) _⟩
    · simp [arithW, arithErr, opCode, hs, he, resW]
    · simp [arithErr, opCode, hs, he]
set_option maxHeartbeats 400000 in
theorem arith_not (k a b : Int) (s : ByteArray) (hs : s.toList = [38, 94]) (w : World) (h1 : -9223372036854775808 ≤ k) (h2 : k ≤ 9223372036854775807) (ha : 0 ≤ a) (ha2 : a ≤ 18446744073709551615) (hb : 0 ≤ b) (hb2 : b ≤ 18446744073709551615) :
  Calls Tryz.prog 84 #[.int .i64 k, .string s, .int .u64 a, .int .u64 b] w fun e w' => e = .returned (.tuple #[.int .u64 (arithW k (opCode s) a b), .int .i64 (arithErr k (opCode s) a b)]) ∧ Below w.heap.size w w' := by
  by_cases he : checkW k [a, b] = 0
  · go_enter Tryz.func84, Tryz.ntmps84
    go_wp2_with (first | (go_at_call 124; refine (check2 _ a b _ _ _ _ (by simp) (by simp)).mono ?_; rintro e w' ⟨rfl, rfl⟩) | (go_at_call 28; refine (wrap_any _ _ _).mono ?_; rintro e w' ⟨rfl, rfl⟩))
    go_ret2; go_tidy; refine ⟨ret_two (v_int ?_) (v_int ?_), (Below.refl _ _).alloc (Nat.le_refl _) _⟩
    · simp [arithW, arithErr, opCode, hs, he, resW, rawW, IntKind.wrap_u64]
    · simp [arithErr, opCode, hs, he]
  · have hn : (checkW k [a, b] != 0) = true := by simp [he]
    go_enter Tryz.func84, Tryz.ntmps84
    go_wp2_with (first | (go_at_call 124; refine (check2 _ a b _ _ _ _ (by simp) (by simp)).mono ?_; rintro e w' ⟨rfl, rfl⟩) | (go_at_call 28; refine (wrap_any _ _ _).mono ?_; rintro e w' ⟨rfl, rfl⟩))
    go_ret2; go_tidy; refine ⟨ret_two (v_int ?_) (v_int ?_), (Below.refl _ _).alloc (Nat.le_refl _) _⟩
    · simp [arithW, arithErr, opCode, hs, he, resW]
    · simp [arithErr, opCode, hs, he]
set_option maxHeartbeats 400000 in
theorem arith_quo (k a b : Int) (s : ByteArray) (hs : s.toList = [47]) (w : World) (h1 : -9223372036854775808 ≤ k) (h2 : k ≤ 9223372036854775807) (ha : 0 ≤ a) (ha2 : a ≤ 18446744073709551615) (hb : 0 ≤ b) (hb2 : b ≤ 18446744073709551615) :
  Calls Tryz.prog 84 #[.int .i64 k, .string s, .int .u64 a, .int .u64 b] w fun e w' => e = .returned (.tuple #[.int .u64 (arithW k (opCode s) a b), .int .i64 (arithErr k (opCode s) a b)]) ∧ Below w.heap.size w w' := by
  by_cases he : checkW k [a, b] = 0
  · by_cases hb0 : b = 0
    · subst hb0
      go_enter Tryz.func84, Tryz.ntmps84
      go_wp2_with (first | (go_at_call 124; refine (check2 _ a 0 _ _ _ _ (by simp) (by simp)).mono ?_; rintro e w' ⟨rfl, rfl⟩))
      go_ret2; go_tidy; refine ⟨ret_two (v_int ?_) (v_int ?_), (Below.refl _ _).alloc (Nat.le_refl _) _⟩
      · simp [arithW, arithErr, opCode, hs, he, resW]
      · simp [arithErr, opCode, hs, he]
    · go_enter Tryz.func84, Tryz.ntmps84
      go_wp2_with (first | (go_at_call 124; refine (check2 _ a b _ _ _ _ (by simp) (by simp)).mono ?_; rintro e w' ⟨rfl, rfl⟩) | (go_at_call 128; refine (divide_any _ _ _ _ hs _ h1 h2 ha ha2 (by omega) hb2).mono ?_; rintro e w' ⟨rfl, rfl⟩) | (go_at_call 28; refine (wrap_any _ _ _).mono ?_; rintro e w' ⟨rfl, rfl⟩))
      go_ret2; go_tidy; refine ⟨ret_two (v_int ?_) (v_int ?_), (Below.refl _ _).alloc (Nat.le_refl _) _⟩
      · simp [arithW, arithErr, opCode, hs, he, resW, hb0]
      · simp [arithErr, opCode, hs, he, hb0]
  · have hn : (checkW k [a, b] != 0) = true := by simp [he]
    go_enter Tryz.func84, Tryz.ntmps84
    go_wp2_with (first | (go_at_call 124; refine (check2 _ a b _ _ _ _ (by simp) (by simp)).mono ?_; rintro e w' ⟨rfl, rfl⟩) | (go_at_call 28; refine (wrap_any _ _ _).mono ?_; rintro e w' ⟨rfl, rfl⟩))
    go_ret2; go_tidy; refine ⟨ret_two (v_int ?_) (v_int ?_), (Below.refl _ _).alloc (Nat.le_refl _) _⟩
    · simp [arithW, arithErr, opCode, hs, he, resW]
    · simp [arithErr, opCode, hs, he]
set_option maxHeartbeats 400000 in
theorem arith_rem (k a b : Int) (s : ByteArray) (hs : s.toList = [37]) (w : World) (h1 : -9223372036854775808 ≤ k) (h2 : k ≤ 9223372036854775807) (ha : 0 ≤ a) (ha2 : a ≤ 18446744073709551615) (hb : 0 ≤ b) (hb2 : b ≤ 18446744073709551615) :
  Calls Tryz.prog 84 #[.int .i64 k, .string s, .int .u64 a, .int .u64 b] w fun e w' => e = .returned (.tuple #[.int .u64 (arithW k (opCode s) a b), .int .i64 (arithErr k (opCode s) a b)]) ∧ Below w.heap.size w w' := by
  by_cases he : checkW k [a, b] = 0
  · by_cases hb0 : b = 0
    · subst hb0
      go_enter Tryz.func84, Tryz.ntmps84
      go_wp2_with (first | (go_at_call 124; refine (check2 _ a 0 _ _ _ _ (by simp) (by simp)).mono ?_; rintro e w' ⟨rfl, rfl⟩))
      go_ret2; go_tidy; refine ⟨ret_two (v_int ?_) (v_int ?_), (Below.refl _ _).alloc (Nat.le_refl _) _⟩
      · simp [arithW, arithErr, opCode, hs, he, resW]
      · simp [arithErr, opCode, hs, he]
    · go_enter Tryz.func84, Tryz.ntmps84
      go_wp2_with (first | (go_at_call 124; refine (check2 _ a b _ _ _ _ (by simp) (by simp)).mono ?_; rintro e w' ⟨rfl, rfl⟩) | (go_at_call 128; refine (rem_any _ _ _ _ hs _ h1 h2 ha ha2 (by omega) hb2).mono ?_; rintro e w' ⟨rfl, rfl⟩) | (go_at_call 28; refine (wrap_any _ _ _).mono ?_; rintro e w' ⟨rfl, rfl⟩))
      go_ret2; go_tidy; refine ⟨ret_two (v_int ?_) (v_int ?_), (Below.refl _ _).alloc (Nat.le_refl _) _⟩
      · simp [arithW, arithErr, opCode, hs, he, resW, hb0]
      · simp [arithErr, opCode, hs, he, hb0]
  · have hn : (checkW k [a, b] != 0) = true := by simp [he]
    go_enter Tryz.func84, Tryz.ntmps84
    go_wp2_with (first | (go_at_call 124; refine (check2 _ a b _ _ _ _ (by simp) (by simp)).mono ?_; rintro e w' ⟨rfl, rfl⟩) | (go_at_call 28; refine (wrap_any _ _ _).mono ?_; rintro e w' ⟨rfl, rfl⟩))
    go_ret2; go_tidy; refine ⟨ret_two (v_int ?_) (v_int ?_), (Below.refl _ _).alloc (Nat.le_refl _) _⟩
    · simp [arithW, arithErr, opCode, hs, he, resW]
    · simp [arithErr, opCode, hs, he]
theorem arith_shl (k a b : Int) (s : ByteArray) (hs : s.toList = [60, 60]) (w : World) (h1 : -9223372036854775808 ≤ k) (h2 : k ≤ 9223372036854775807) (ha : 0 ≤ a) (ha2 : a ≤ 18446744073709551615) (hb : 0 ≤ b) (hb2 : b ≤ 18446744073709551615) :
  Calls Tryz.prog 84 #[.int .i64 k, .string s, .int .u64 a, .int .u64 b] w fun e w' => e = .returned (.tuple #[.int .u64 (arithW k (opCode s) a b), .int .i64 (arithErr k (opCode s) a b)]) ∧ Below w.heap.size w w' := by
  go_enter Tryz.func84, Tryz.ntmps84
  go_wp2_with fail
  go_ret2; go_tidy; refine ⟨ret_two (v_int ?_) (v_int ?_), Below.refl _ _⟩
  · simp [arithW, arithErr, opCode, hs, resW]
  · simp [arithErr, opCode, hs]
theorem arith_shr (k a b : Int) (s : ByteArray) (hs : s.toList = [62, 62]) (w : World) (h1 : -9223372036854775808 ≤ k) (h2 : k ≤ 9223372036854775807) (ha : 0 ≤ a) (ha2 : a ≤ 18446744073709551615) (hb : 0 ≤ b) (hb2 : b ≤ 18446744073709551615) :
  Calls Tryz.prog 84 #[.int .i64 k, .string s, .int .u64 a, .int .u64 b] w fun e w' => e = .returned (.tuple #[.int .u64 (arithW k (opCode s) a b), .int .i64 (arithErr k (opCode s) a b)]) ∧ Below w.heap.size w w' := by
  go_enter Tryz.func84, Tryz.ntmps84
  go_wp2_with fail
  go_ret2; go_tidy; refine ⟨ret_two (v_int ?_) (v_int ?_), Below.refl _ _⟩
  · simp [arithW, arithErr, opCode, hs, resW]
  · simp [arithErr, opCode, hs]
theorem arith_any (k a b : Int) (s : ByteArray) (w : World) (h1 : -9223372036854775808 ≤ k) (h2 : k ≤ 9223372036854775807) (ha : 0 ≤ a) (ha2 : a ≤ 18446744073709551615) (hb : 0 ≤ b) (hb2 : b ≤ 18446744073709551615) :
  Calls Tryz.prog 84 #[.int .i64 k, .string s, .int .u64 a, .int .u64 b] w fun e w' => e = .returned (.tuple #[.int .u64 (arithW k (opCode s) a b), .int .i64 (arithErr k (opCode s) a b)]) ∧ Below w.heap.size w w' := by
  rcases opCode_cases s with hs | hs | hs | hs | hs | hs | hs | hs | hs | hs | hs | ⟨hs1, hs2, hs3, hs4, hs5, hs6, hs7, hs8, hs9, hs10, hs11⟩
  · exact arith_add k a b s hs w h1 h2 ha ha2 hb hb2
  · exact arith_sub k a b s hs w h1 h2 ha ha2 hb hb2
  · exact arith_mul k a b s hs w h1 h2 ha ha2 hb hb2
  · exact arith_and k a b s hs w h1 h2 ha ha2 hb hb2
  · exact arith_or k a b s hs w h1 h2 ha ha2 hb hb2
  · exact arith_xor k a b s hs w h1 h2 ha ha2 hb hb2
  · exact arith_not k a b s hs w h1 h2 ha ha2 hb hb2
  · exact arith_quo k a b s hs w h1 h2 ha ha2 hb hb2
  · exact arith_rem k a b s hs w h1 h2 ha ha2 hb hb2
  · exact arith_shl k a b s hs w h1 h2 ha ha2 hb hb2
  · exact arith_shr k a b s hs w h1 h2 ha ha2 hb hb2
  · go_enter Tryz.func84, Tryz.ntmps84
    go_wp2_with fail
    simp only [beq_eq_false_iff_ne] at hs1 hs2 hs3 hs4 hs5 hs6 hs7 hs8 hs9 hs10 hs11
    go_ret2; go_tidy; refine ⟨ret_two (v_int ?_) (v_int ?_), Below.refl _ _⟩
    · simp [arithW, arithErr, opCode, *, resW]
    · simp [arithErr, opCode, *]
end Go.Proofs.YtdfeelmphlellaaGreatDoor
