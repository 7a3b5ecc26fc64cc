/- Contracts of In and bitwise of the reference of the word layer, for every kind of the six and every operator on bits. -/
import Derived.Test.YtgjfdclmoeellaaRa
import Derived.Test.YtgjfdclmoeellaaQ
namespace Go.Proofs.Ytgjfdclmoeellaa
open Go.RowKit
set_option linter.unusedSimpArgs false
set_option linter.unusedVariables false

theorem rin_any (k m : Int) (neg : Bool) (w : World) (h1 : -9223372036854775808 ≤ k) (h2 : k ≤ 9223372036854775807) (hk : isW k = true) (hm : 0 ≤ m) (hm2 : m ≤ 18446744073709551615) : Calls Try.prog 22 #[.int .i64 k, .agg #[.bool neg, .int .u64 m]] w fun e w' => e = .returned (.bool (rIn k neg m)) ∧ Below w.heap.size w w' := by
  have hb : topW k = 128 ∨ topW k = 2147483648 ∨ topW k = 9223372036854775808 := by
    rcases bits_cases hk with hb | hb | hb <;> simp [topW, hb]
  rcases hb with hb | hb | hb
  all_goals
    cases hg : sgnW k <;> cases neg
    all_goals
      go_enter Try.func22, Try.ntmps22
      go_wp2_with (first | (go_at_call 29; refine (rsigned_any _ _ h1 h2).mono ?_; rintro e w' ⟨rfl, rfl⟩))
      go_quiet (first | (go_at_call 29; exact quiet_eq (rsigned_any _ _ h1 h2)) | (go_at_call 48; exact quiet_eq (rtop_any _ _ hk)))
      go_wp2
      go_ret
      exact ⟨ret_bool (by (simp [rIn, hb, hg]; try omega)), by first | exact below_dn ((Below.refl _ _).alloc (Nat.le_refl _) _) _ | exact (Below.refl _ _).alloc (Nat.le_refl _) _⟩

set_option maxHeartbeats 400000 in
theorem rbitwise_and (a b : Int) (s : ByteArray) (hs : s.toList = [38]) (w : World) (ha : 0 ≤ a) (ha2 : a ≤ 18446744073709551615) (hb : 0 ≤ b) (hb2 : b ≤ 18446744073709551615) : Calls Try.prog 53 #[.string s, .int .u64 a, .int .u64 b] w fun e w' => e = .returned (.int .u64 (rbw 6 a b 64)) ∧ w = w' := by
  go_enter Try.func53, Try.ntmps53
  go_wp2
  go_loop [7, 8] (fun out i => ∃ j : Nat, j ≤ 64 ∧ i = .int .u64 j ∧ out = .int .u64 (rbw 6 a b j)) (fun _ i => 64 - (intOf i).toNat)
  case atStart => exact ⟨0, Nat.zero_le _, rfl, rfl⟩
  case round =>
    obtain ⟨j, hj, rfl, rfl⟩ := hrel
    by_cases hlt : j < 64
    · cases hx : ((a / 2 ^ j).tmod 2 == 1) <;> cases hy : ((b / 2 ^ j).tmod 2 == 1)
      all_goals
        go_wp2
        exact ⟨⟨j + 1, by omega, by go_num, v_int (by simp only [rbw, hx, hy, rbit]; simp)⟩, by simp [intOf]; omega⟩
    · go_wp2
      obtain rfl : j = 64 := by omega
      go_ret
      exact ⟨rfl, rfl⟩
set_option maxHeartbeats 400000 in
theorem rbitwise_or (a b : Int) (s : ByteArray) (hs : s.toList = [124]) (w : World) (ha : 0 ≤ a) (ha2 : a ≤ 18446744073709551615) (hb : 0 ≤ b) (hb2 : b ≤ 18446744073709551615) : Calls Try.prog 53 #[.string s, .int .u64 a, .int .u64 b] w fun e w' => e = .returned (.int .u64 (rbw 7 a b 64)) ∧ w = w' := by
  go_enter Try.func53, Try.ntmps53
  go_wp2
  go_loop [7, 8] (fun out i => ∃ j : Nat, j ≤ 64 ∧ i = .int .u64 j ∧ out = .int .u64 (rbw 7 a b j)) (fun _ i => 64 - (intOf i).toNat)
  case atStart => exact ⟨0, Nat.zero_le _, rfl, rfl⟩
  case round =>
    obtain ⟨j, hj, rfl, rfl⟩ := hrel
    by_cases hlt : j < 64
    · cases hx : ((a / 2 ^ j).tmod 2 == 1) <;> cases hy : ((b / 2 ^ j).tmod 2 == 1)
      all_goals
        go_wp2
        exact ⟨⟨j + 1, by omega, by go_num, v_int (by simp only [rbw, hx, hy, rbit]; simp)⟩, by simp [intOf]; omega⟩
    · go_wp2
      obtain rfl : j = 64 := by omega
      go_ret
      exact ⟨rfl, rfl⟩
set_option maxHeartbeats 400000 in
theorem rbitwise_xor (a b : Int) (s : ByteArray) (hs : s.toList = [94]) (w : World) (ha : 0 ≤ a) (ha2 : a ≤ 18446744073709551615) (hb : 0 ≤ b) (hb2 : b ≤ 18446744073709551615) : Calls Try.prog 53 #[.string s, .int .u64 a, .int .u64 b] w fun e w' => e = .returned (.int .u64 (rbw 8 a b 64)) ∧ w = w' := by
  go_enter Try.func53, Try.ntmps53
  go_wp2
  go_loop [7, 8] (fun out i => ∃ j : Nat, j ≤ 64 ∧ i = .int .u64 j ∧ out = .int .u64 (rbw 8 a b j)) (fun _ i => 64 - (intOf i).toNat)
  case atStart => exact ⟨0, Nat.zero_le _, rfl, rfl⟩
  case round =>
    obtain ⟨j, hj, rfl, rfl⟩ := hrel
    by_cases hlt : j < 64
    · cases hx : ((a / 2 ^ j).tmod 2 == 1) <;> cases hy : ((b / 2 ^ j).tmod 2 == 1)
      all_goals
        go_wp2
        exact ⟨⟨j + 1, by omega, by go_num, v_int (by simp only [rbw, hx, hy, rbit]; simp)⟩, by simp [intOf]; omega⟩
    · go_wp2
      obtain rfl : j = 64 := by omega
      go_ret
      exact ⟨rfl, rfl⟩
set_option maxHeartbeats 400000 in
theorem rbitwise_not (a b : Int) (s : ByteArray) (hs : s.toList = [38, 94]) (w : World) (ha : 0 ≤ a) (ha2 : a ≤ 18446744073709551615) (hb : 0 ≤ b) (hb2 : b ≤ 18446744073709551615) : Calls Try.prog 53 #[.string s, .int .u64 a, .int .u64 b] w fun e w' => e = .returned (.int .u64 (rbw 9 a b 64)) ∧ w = w' := by
  go_enter Try.func53, Try.ntmps53
  go_wp2
  go_loop [7, 8] (fun out i => ∃ j : Nat, j ≤ 64 ∧ i = .int .u64 j ∧ out = .int .u64 (rbw 9 a b j)) (fun _ i => 64 - (intOf i).toNat)
  case atStart => exact ⟨0, Nat.zero_le _, rfl, rfl⟩
  case round =>
    obtain ⟨j, hj, rfl, rfl⟩ := hrel
    by_cases hlt : j < 64
    · cases hx : ((a / 2 ^ j).tmod 2 == 1) <;> cases hy : ((b / 2 ^ j).tmod 2 == 1)
      all_goals
        go_wp2
        exact ⟨⟨j + 1, by omega, by go_num, v_int (by simp only [rbw, hx, hy, rbit]; simp)⟩, by simp [intOf]; omega⟩
    · go_wp2
      obtain rfl : j = 64 := by omega
      go_ret
      exact ⟨rfl, rfl⟩
end Go.Proofs.Ytgjfdclmoeellaa
