/- Contracts of word.Convert, word.Less and word.Shift, for every input within the range of their types. -/
import Derived.Test.YtdfeelmphlellaaGreatDoorWa
namespace Go.Proofs.YtdfeelmphlellaaGreatDoor
open Go.RowKit
set_option linter.unusedSimpArgs false
set_option linter.unusedVariables false

theorem convert_any (f t n : Int) (w : World) : Calls Tryz.prog 89 #[.int .i64 f, .int .i64 t, .int .u64 n] w fun e w' => e = .returned (.tuple #[.int .u64 (resW (convErr f t n) (wrapW t n)), .int .i64 (convErr f t n)]) ∧ Below w.heap.size w w' := by
  cases hf : isW f
  · go_enter Tryz.func89, Tryz.ntmps89
    go_wp2_with (go_at_call 27; refine (whole_any _ _).mono ?_; rintro e w' ⟨rfl, rfl⟩)
    go_ret2; go_tidy; refine ⟨ret_two (v_int ?_) (v_int ?_), Below.refl _ _⟩ <;> simp [convErr, resW, hf]
  · cases ht : isW t
    · go_enter Tryz.func89, Tryz.ntmps89
      go_wp2_with (go_at_call 27; refine (whole_any _ _).mono ?_; rintro e w' ⟨rfl, rfl⟩)
      go_ret2; go_tidy; refine ⟨ret_two (v_int ?_) (v_int ?_), Below.refl _ _⟩ <;> simp [convErr, resW, hf, ht]
    · by_cases he : checkW f [n] = 0
      · go_enter Tryz.func89, Tryz.ntmps89
        go_wp2_with (first | (go_at_call 27; refine (whole_any _ _).mono ?_; rintro e w' ⟨rfl, rfl⟩) | (go_at_call 124; refine (check1 _ n _ _ _ _ (by simp)).mono ?_; rintro e w' ⟨rfl, rfl⟩) | (go_at_call 28; refine (wrap_any _ _ _).mono ?_; rintro e w' ⟨rfl, rfl⟩))
        go_ret2; go_tidy; refine ⟨ret_two (v_int ?_) (v_int ?_), (Below.refl _ _).alloc (Nat.le_refl _) _⟩ <;> simp [convErr, resW, hf, ht, he]
      · have hn : (checkW f [n] != 0) = true := by simp [he]
        go_enter Tryz.func89, Tryz.ntmps89
        go_wp2_with (first | (go_at_call 27; refine (whole_any _ _).mono ?_; rintro e w' ⟨rfl, rfl⟩) | (go_at_call 124; refine (check1 _ n _ _ _ _ (by simp)).mono ?_; rintro e w' ⟨rfl, rfl⟩) | (go_at_call 28; refine (wrap_any _ _ _).mono ?_; rintro e w' ⟨rfl, rfl⟩))
        go_ret2; go_tidy; refine ⟨ret_two (v_int ?_) (v_int ?_), (Below.refl _ _).alloc (Nat.le_refl _) _⟩ <;> simp [convErr, resW, hf, ht, he]

theorem less_any (k a b : Int) (w : World) (h1 : -9223372036854775808 ≤ k) (h2 : k ≤ 9223372036854775807) : Calls Tryz.prog 86 #[.int .i64 k, .int .u64 a, .int .u64 b] w fun e w' => e = .returned (.tuple #[.bool (lessW k a b), .int .i64 (checkW k [a, b])]) ∧ Below w.heap.size w w' := by
  by_cases he : checkW k [a, b] = 0
  · cases hg : sgnW k
    all_goals
      go_enter Tryz.func86, Tryz.ntmps86
      go_wp2_with (first | (go_at_call 124; refine (check2 _ a b _ _ _ _ (by simp) (by simp)).mono ?_; rintro e w' ⟨rfl, rfl⟩) | (go_at_call 125; refine (signed_any _ _ h1 h2).mono ?_; rintro e w' ⟨rfl, rfl⟩))
      go_ret2; go_tidy; refine ⟨ret_two (v_bool ?_) (v_int ?_), (Below.refl _ _).alloc (Nat.le_refl _) _⟩ <;> simp [lessW, he, sval, hg]
  · have hn : (checkW k [a, b] != 0) = true := by simp [he]
    go_enter Tryz.func86, Tryz.ntmps86
    go_wp2_with (first | (go_at_call 124; refine (check2 _ a b _ _ _ _ (by simp) (by simp)).mono ?_; rintro e w' ⟨rfl, rfl⟩) | (go_at_call 125; refine (signed_any _ _ h1 h2).mono ?_; rintro e w' ⟨rfl, rfl⟩))
    go_ret2; go_tidy; refine ⟨ret_two (v_bool ?_) (v_int ?_), (Below.refl _ _).alloc (Nat.le_refl _) _⟩ <;> simp [lessW, he]

set_option maxHeartbeats 1000000 in
theorem shift_shl (k a by' n : Int) (s : ByteArray) (hs : s.toList = [60, 60]) (w : World) (h1 : -9223372036854775808 ≤ k) (h2 : k ≤ 9223372036854775807) (h3 : -9223372036854775808 ≤ by') (h4 : by' ≤ 9223372036854775807) (ha : 0 ≤ a) (ha2 : a ≤ 18446744073709551615) (hb : 0 ≤ n) (hb2 : n ≤ 18446744073709551615) :
  Calls Tryz.prog 85 #[.int .i64 k, .string s, .int .u64 a, .int .i64 by', .int .u64 n] w fun e w' => e = .returned (.tuple #[.int .u64 (resW (shiftErr k (opCode s) a by' n) (wrapW k (shiftRaw k (opCode s) a n))), .int .i64 (shiftErr k (opCode s) a by' n)]) ∧ w = w' := by
  cases hk : isW k
  · go_enter Tryz.func85, Tryz.ntmps85
    go_wp2_with (first | (go_at_call 27; refine (whole_any _ _).mono ?_; rintro e w' ⟨rfl, rfl⟩) | (go_at_call 18; refine (is_any _ _ _).mono ?_; rintro e w' ⟨rfl, rfl⟩) | (go_at_call 125; refine (signed_any _ _ (by omega) (by omega)).mono ?_; rintro e w' ⟨rfl, rfl⟩) | (go_at_call 28; refine (wrap_any _ _ _).mono ?_; rintro e w' ⟨rfl, rfl⟩))
    go_ret2; go_tidy; refine ⟨ret_two (v_int ?_) (v_int ?_), rfl⟩ <;> simp [shiftErr, shiftRaw, resW, sval, opCode, hs, hk]
  cases hby : isW by'
  · go_enter Tryz.func85, Tryz.ntmps85
    go_wp2_with (first | (go_at_call 27; refine (whole_any _ _).mono ?_; rintro e w' ⟨rfl, rfl⟩) | (go_at_call 18; refine (is_any _ _ _).mono ?_; rintro e w' ⟨rfl, rfl⟩) | (go_at_call 125; refine (signed_any _ _ (by omega) (by omega)).mono ?_; rintro e w' ⟨rfl, rfl⟩) | (go_at_call 28; refine (wrap_any _ _ _).mono ?_; rintro e w' ⟨rfl, rfl⟩))
    go_ret2; go_tidy; refine ⟨ret_two (v_int ?_) (v_int ?_), rfl⟩ <;> simp [shiftErr, shiftRaw, resW, sval, opCode, hs, hk, hby]
  cases hia : inW k a
  · go_enter Tryz.func85, Tryz.ntmps85
    go_wp2_with (first | (go_at_call 27; refine (whole_any _ _).mono ?_; rintro e w' ⟨rfl, rfl⟩) | (go_at_call 18; refine (is_any _ _ _).mono ?_; rintro e w' ⟨rfl, rfl⟩) | (go_at_call 125; refine (signed_any _ _ (by omega) (by omega)).mono ?_; rintro e w' ⟨rfl, rfl⟩) | (go_at_call 28; refine (wrap_any _ _ _).mono ?_; rintro e w' ⟨rfl, rfl⟩))
    go_ret2; go_tidy; refine ⟨ret_two (v_int ?_) (v_int ?_), rfl⟩ <;> simp [shiftErr, shiftRaw, resW, sval, opCode, hs, hk, hby, hia]
  cases hin : inW by' n
  · go_enter Tryz.func85, Tryz.ntmps85
    go_wp2_with (first | (go_at_call 27; refine (whole_any _ _).mono ?_; rintro e w' ⟨rfl, rfl⟩) | (go_at_call 18; refine (is_any _ _ _).mono ?_; rintro e w' ⟨rfl, rfl⟩) | (go_at_call 125; refine (signed_any _ _ (by omega) (by omega)).mono ?_; rintro e w' ⟨rfl, rfl⟩) | (go_at_call 28; refine (wrap_any _ _ _).mono ?_; rintro e w' ⟨rfl, rfl⟩))
    go_ret2; go_tidy; refine ⟨ret_two (v_int ?_) (v_int ?_), rfl⟩ <;> simp [shiftErr, shiftRaw, resW, sval, opCode, hs, hk, hby, hia, hin]
  cases hg : sgnW by'
  · have hnn : ¬ n < 0 := by omega
    go_enter Tryz.func85, Tryz.ntmps85
    go_wp2_with (first | (go_at_call 27; refine (whole_any _ _).mono ?_; rintro e w' ⟨rfl, rfl⟩) | (go_at_call 18; refine (is_any _ _ _).mono ?_; rintro e w' ⟨rfl, rfl⟩) | (go_at_call 125; refine (signed_any _ _ (by omega) (by omega)).mono ?_; rintro e w' ⟨rfl, rfl⟩) | (go_at_call 28; refine (wrap_any _ _ _).mono ?_; rintro e w' ⟨rfl, rfl⟩))
    go_ret2; go_tidy; refine ⟨ret_two (v_int ?_) (v_int ?_), rfl⟩ <;> simp [shiftErr, shiftRaw, resW, sval, opCode, hs, hk, hby, hia, hin, hg, hb, IntKind.wrap_u64, hnn]
  · by_cases hp : wrap64 n < 0
    · go_enter Tryz.func85, Tryz.ntmps85
      go_wp2_with (first | (go_at_call 27; refine (whole_any _ _).mono ?_; rintro e w' ⟨rfl, rfl⟩) | (go_at_call 18; refine (is_any _ _ _).mono ?_; rintro e w' ⟨rfl, rfl⟩) | (go_at_call 125; refine (signed_any _ _ (by omega) (by omega)).mono ?_; rintro e w' ⟨rfl, rfl⟩) | (go_at_call 28; refine (wrap_any _ _ _).mono ?_; rintro e w' ⟨rfl, rfl⟩))
      go_ret2; go_tidy; refine ⟨ret_two (v_int ?_) (v_int ?_), rfl⟩ <;> simp [shiftErr, shiftRaw, resW, sval, opCode, hs, hk, hby, hia, hin, hg, hb, IntKind.wrap_u64, hp]
    · go_enter Tryz.func85, Tryz.ntmps85
      go_wp2_with (first | (go_at_call 27; refine (whole_any _ _).mono ?_; rintro e w' ⟨rfl, rfl⟩) | (go_at_call 18; refine (is_any _ _ _).mono ?_; rintro e w' ⟨rfl, rfl⟩) | (go_at_call 125; refine (signed_any _ _ (by omega) (by omega)).mono ?_; rintro e w' ⟨rfl, rfl⟩) | (go_at_call 28; refine (wrap_any _ _ _).mono ?_; rintro e w' ⟨rfl, rfl⟩))
      go_ret2; go_tidy; refine ⟨ret_two (v_int ?_) (v_int ?_), rfl⟩ <;> simp [shiftErr, shiftRaw, resW, sval, opCode, hs, hk, hby, hia, hin, hg, hb, IntKind.wrap_u64, hp]
set_option maxHeartbeats 1000000 in
theorem shift_shr (k a by' n : Int) (s : ByteArray) (hs : s.toList = [62, 62]) (w : World) (h1 : -9223372036854775808 ≤ k) (h2 : k ≤ 9223372036854775807) (h3 : -9223372036854775808 ≤ by') (h4 : by' ≤ 9223372036854775807) (ha : 0 ≤ a) (ha2 : a ≤ 18446744073709551615) (hb : 0 ≤ n) (hb2 : n ≤ 18446744073709551615) :
  Calls Tryz.prog 85 #[.int .i64 k, .string s, .int .u64 a, .int .i64 by', .int .u64 n] w fun e w' => e = .returned (.tuple #[.int .u64 (resW (shiftErr k (opCode s) a by' n) (wrapW k (shiftRaw k (opCode s) a n))), .int .i64 (shiftErr k (opCode s) a by' n)]) ∧ w = w' := by
  cases hk : isW k
  · go_enter Tryz.func85, Tryz.ntmps85
    go_wp2_with (first | (go_at_call 27; refine (whole_any _ _).mono ?_; rintro e w' ⟨rfl, rfl⟩) | (go_at_call 18; refine (is_any _ _ _).mono ?_; rintro e w' ⟨rfl, rfl⟩) | (go_at_call 125; refine (signed_any _ _ (by omega) (by omega)).mono ?_; rintro e w' ⟨rfl, rfl⟩) | (go_at_call 28; refine (wrap_any _ _ _).mono ?_; rintro e w' ⟨rfl, rfl⟩))
    go_ret2; go_tidy; refine ⟨ret_two (v_int ?_) (v_int ?_), rfl⟩ <;> simp [shiftErr, shiftRaw, resW, sval, opCode, hs, hk]
  cases hby : isW by'
  · go_enter Tryz.func85, Tryz.ntmps85
    go_wp2_with (first | (go_at_call 27; refine (whole_any _ _).mono ?_; rintro e w' ⟨rfl, rfl⟩) | (go_at_call 18; refine (is_any _ _ _).mono ?_; rintro e w' ⟨rfl, rfl⟩) | (go_at_call 125; refine (signed_any _ _ (by omega) (by omega)).mono ?_; rintro e w' ⟨rfl, rfl⟩) | (go_at_call 28; refine (wrap_any _ _ _).mono ?_; rintro e w' ⟨rfl, rfl⟩))
    go_ret2; go_tidy; refine ⟨ret_two (v_int ?_) (v_int ?_), rfl⟩ <;> simp [shiftErr, shiftRaw, resW, sval, opCode, hs, hk, hby]
  cases hia : inW k a
  · go_enter Tryz.func85, Tryz.ntmps85
    go_wp2_with (first | (go_at_call 27; refine (whole_any _ _).mono ?_; rintro e w' ⟨rfl, rfl⟩) | (go_at_call 18; refine (is_any _ _ _).mono ?_; rintro e w' ⟨rfl, rfl⟩) | (go_at_call 125; refine (signed_any _ _ (by omega) (by omega)).mono ?_; rintro e w' ⟨rfl, rfl⟩) | (go_at_call 28; refine (wrap_any _ _ _).mono ?_; rintro e w' ⟨rfl, rfl⟩))
    go_ret2; go_tidy; refine ⟨ret_two (v_int ?_) (v_int ?_), rfl⟩ <;> simp [shiftErr, shiftRaw, resW, sval, opCode, hs, hk, hby, hia]
  cases hin : inW by' n
  · go_enter Tryz.func85, Tryz.ntmps85
    go_wp2_with (first | (go_at_call 27; refine (whole_any _ _).mono ?_; rintro e w' ⟨rfl, rfl⟩) | (go_at_call 18; refine (is_any _ _ _).mono ?_; rintro e w' ⟨rfl, rfl⟩) | (go_at_call 125; refine (signed_any _ _ (by omega) (by omega)).mono ?_; rintro e w' ⟨rfl, rfl⟩) | (go_at_call 28; refine (wrap_any _ _ _).mono ?_; rintro e w' ⟨rfl, rfl⟩))
    go_ret2; go_tidy; refine ⟨ret_two (v_int ?_) (v_int ?_), rfl⟩ <;> simp [shiftErr, shiftRaw, resW, sval, opCode, hs, hk, hby, hia, hin]
  cases hg : sgnW by'
  · have hnn : ¬ n < 0 := by omega
    cases hgk : sgnW k
    · go_enter Tryz.func85, Tryz.ntmps85
      go_wp2_with (first | (go_at_call 27; refine (whole_any _ _).mono ?_; rintro e w' ⟨rfl, rfl⟩) | (go_at_call 18; refine (is_any _ _ _).mono ?_; rintro e w' ⟨rfl, rfl⟩) | (go_at_call 125; refine (signed_any _ _ (by omega) (by omega)).mono ?_; rintro e w' ⟨rfl, rfl⟩) | (go_at_call 28; refine (wrap_any _ _ _).mono ?_; rintro e w' ⟨rfl, rfl⟩))
      go_ret2; go_tidy; refine ⟨ret_two (v_int ?_) (v_int ?_), rfl⟩ <;> simp [shiftErr, shiftRaw, resW, sval, opCode, hs, hk, hby, hia, hin, hg, hb, IntKind.wrap_u64, hgk, shr_mod _ _ ha ha2, hnn]
    · go_enter Tryz.func85, Tryz.ntmps85
      go_wp2_with (first | (go_at_call 27; refine (whole_any _ _).mono ?_; rintro e w' ⟨rfl, rfl⟩) | (go_at_call 18; refine (is_any _ _ _).mono ?_; rintro e w' ⟨rfl, rfl⟩) | (go_at_call 125; refine (signed_any _ _ (by omega) (by omega)).mono ?_; rintro e w' ⟨rfl, rfl⟩) | (go_at_call 28; refine (wrap_any _ _ _).mono ?_; rintro e w' ⟨rfl, rfl⟩))
      go_ret2; go_tidy; refine ⟨ret_two (v_int ?_) (v_int ?_), rfl⟩ <;> simp [shiftErr, shiftRaw, resW, sval, opCode, hs, hk, hby, hia, hin, hg, hb, IntKind.wrap_u64, hgk, shr_mod _ _ ha ha2, hnn]
  · by_cases hp : wrap64 n < 0
    · go_enter Tryz.func85, Tryz.ntmps85
      go_wp2_with (first | (go_at_call 27; refine (whole_any _ _).mono ?_; rintro e w' ⟨rfl, rfl⟩) | (go_at_call 18; refine (is_any _ _ _).mono ?_; rintro e w' ⟨rfl, rfl⟩) | (go_at_call 125; refine (signed_any _ _ (by omega) (by omega)).mono ?_; rintro e w' ⟨rfl, rfl⟩) | (go_at_call 28; refine (wrap_any _ _ _).mono ?_; rintro e w' ⟨rfl, rfl⟩))
      go_ret2; go_tidy; refine ⟨ret_two (v_int ?_) (v_int ?_), rfl⟩ <;> simp [shiftErr, shiftRaw, resW, sval, opCode, hs, hk, hby, hia, hin, hg, hp]
    · cases hgk : sgnW k
      · go_enter Tryz.func85, Tryz.ntmps85
        go_wp2_with (first | (go_at_call 27; refine (whole_any _ _).mono ?_; rintro e w' ⟨rfl, rfl⟩) | (go_at_call 18; refine (is_any _ _ _).mono ?_; rintro e w' ⟨rfl, rfl⟩) | (go_at_call 125; refine (signed_any _ _ (by omega) (by omega)).mono ?_; rintro e w' ⟨rfl, rfl⟩) | (go_at_call 28; refine (wrap_any _ _ _).mono ?_; rintro e w' ⟨rfl, rfl⟩))
        go_ret2; go_tidy; refine ⟨ret_two (v_int ?_) (v_int ?_), rfl⟩ <;> simp [shiftErr, shiftRaw, resW, sval, opCode, hs, hk, hby, hia, hin, hg, hb, IntKind.wrap_u64, hgk, shr_mod _ _ ha ha2, hp]
      · go_enter Tryz.func85, Tryz.ntmps85
        go_wp2_with (first | (go_at_call 27; refine (whole_any _ _).mono ?_; rintro e w' ⟨rfl, rfl⟩) | (go_at_call 18; refine (is_any _ _ _).mono ?_; rintro e w' ⟨rfl, rfl⟩) | (go_at_call 125; refine (signed_any _ _ (by omega) (by omega)).mono ?_; rintro e w' ⟨rfl, rfl⟩) | (go_at_call 28; refine (wrap_any _ _ _).mono ?_; rintro e w' ⟨rfl, rfl⟩))
        go_ret2; go_tidy; refine ⟨ret_two (v_int ?_) (v_int ?_), rfl⟩ <;> simp [shiftErr, shiftRaw, resW, sval, opCode, hs, hk, hby, hia, hin, hg, hb, IntKind.wrap_u64, hgk, shr_mod _ _ ha ha2, hp]
theorem opCode_10 {s : ByteArray} (h : ¬ s.toList = [60, 60]) : ¬ opCode s = 10 := by
  unfold opCode; (repeat' split) <;> simp_all
theorem opCode_11 {s : ByteArray} (h : ¬ s.toList = [62, 62]) : ¬ opCode s = 11 := by
  unfold opCode; (repeat' split) <;> simp_all
theorem shift_any (k a by' n : Int) (s : ByteArray) (w : World) (h1 : -9223372036854775808 ≤ k) (h2 : k ≤ 9223372036854775807) (h3 : -9223372036854775808 ≤ by') (h4 : by' ≤ 9223372036854775807) (ha : 0 ≤ a) (ha2 : a ≤ 18446744073709551615) (hb : 0 ≤ n) (hb2 : n ≤ 18446744073709551615) :
  Calls Tryz.prog 85 #[.int .i64 k, .string s, .int .u64 a, .int .i64 by', .int .u64 n] w fun e w' => e = .returned (.tuple #[.int .u64 (resW (shiftErr k (opCode s) a by' n) (wrapW k (shiftRaw k (opCode s) a n))), .int .i64 (shiftErr k (opCode s) a by' n)]) ∧ w = w' := by
  by_cases hs : s.toList = [60, 60]
  · exact shift_shl k a by' n s hs w h1 h2 h3 h4 ha ha2 hb hb2
  by_cases hs' : s.toList = [62, 62]
  · exact shift_shr k a by' n s hs' w h1 h2 h3 h4 ha ha2 hb hb2
  have e1 := opCode_10 hs
  have e2 := opCode_11 hs'
  have n1 : (s.toList != [60, 60]) = true := by simp [hs]
  have n2 : (s.toList != [62, 62]) = true := by simp [hs']
  have n3 : (s.toList == [60, 60]) = false := by simp [hs]
  have n4 : (s.toList == [62, 62]) = false := by simp [hs']
  clear hs hs'
  go_enter Tryz.func85, Tryz.ntmps85
  go_wp2_with (first | (go_at_call 27; refine (whole_any _ _).mono ?_; rintro e w' ⟨rfl, rfl⟩) | (go_at_call 18; refine (is_any _ _ _).mono ?_; rintro e w' ⟨rfl, rfl⟩) | (go_at_call 125; refine (signed_any _ _ (by omega) (by omega)).mono ?_; rintro e w' ⟨rfl, rfl⟩) | (go_at_call 28; refine (wrap_any _ _ _).mono ?_; rintro e w' ⟨rfl, rfl⟩))
  go_ret2; go_tidy; refine ⟨ret_two (v_int ?_) (v_int ?_), rfl⟩ <;> simp [shiftErr, resW, e1, e2]
end Go.Proofs.YtdfeelmphlellaaGreatDoor
