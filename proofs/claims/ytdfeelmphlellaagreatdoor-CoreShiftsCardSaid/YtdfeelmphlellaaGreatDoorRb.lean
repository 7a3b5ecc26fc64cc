/- Contracts of In and bitwise of the reference of the word layer, for every kind of the six and every operator on bits. -/
import Derived.Test.YtdfeelmphlellaaGreatDoorRa
import Derived.Test.YtdfeelmphlellaaGreatDoorQ
namespace Go.Proofs.YtdfeelmphlellaaGreatDoor
open Go.RowKit
set_option linter.unusedSimpArgs false
set_option linter.unusedVariables false

set_option maxHeartbeats 400000 in
theorem rbitwise_and (a b : Int) (s : ByteArray) (hs : s.toList = [38]) (w : World) (ha : 0 ≤ a) (ha2 : a ≤ 18446744073709551615) (hb : 0 ≤ b) (hb2 : b ≤ 18446744073709551615) : Calls Tryz.prog 24 #[.string s, .int .u64 a, .int .u64 b] w fun e w' => e = .returned (.int .u64 (rbw 6 a b 64)) ∧ w = w' := by
  go_enter Tryz.func24, Tryz.ntmps24
  go_wp2
  go_loop [7, 8] (fun out i => ∃ j : Nat, j ≤ 64 ∧ i = .int .u64 j ∧ out = .int .u64 (rbw 6 a b j)) (fun _ i => 64 - (intOf i).toNat)
  case atStart => exact ⟨0, Nat.zero_le _, rfl, rfl⟩
  case round =>
    obtain ⟨j, hj, rfl, rfl⟩ := hrel
    by_cases hlt : j < 64
    · cases hx : ((a / 2 ^ j).tmod 2 == 1) <;> cases hy : ((b / 2 ^ j).tmod 2 == 1)
      all_goals
        go_wp2
        exact ⟨⟨j + 1, by omega, by go_num, v_int (by simp only [rbw, hx, hy, rbit]; simp)⟩, by simp [intOf]; omega⟩
    · go_wp2
      obtain rfl : j = 64 := by omega
      go_ret
      exact ⟨rfl, rfl⟩
set_option maxHeartbeats 400000 in
theorem rbitwise_or (a b : Int) (s : ByteArray) (hs : s.toList = [124]) (w : World) (ha : 0 ≤ a) (ha2 : a ≤ 18446744073709551615) (hb : 0 ≤ b) (hb2 : b ≤ 18446744073709551615) : Calls Tryz.prog 24 #[.string s, .int .u64 a, .int .u64 b] w fun e w' => e = .returned (.int .u64 (rbw 7 a b 64)) ∧ w = w' := by
  go_enter Tryz.func24, Tryz.ntmps24
  go_wp2
  go_loop [7, 8] (fun out i => ∃ j : Nat, j ≤ 64 ∧ i = .int .u64 j ∧ out = .int .u64 (rbw 7 a b j)) (fun _ i => 64 - (intOf i).toNat)
  case atStart => exact ⟨0, Nat.zero_le _, rfl, rfl⟩
  case round =>
    obtain ⟨j, hj, rfl, rfl⟩ := hrel
    by_cases hlt : j < 64
    · cases hx : ((a / 2 ^ j).tmod 2 == 1) <;> cases hy : ((b / 2 ^ j).tmod 2 == 1)
      all_goals
        go_wp2
        exact ⟨⟨j + 1, by omega, by go_num, v_int (by simp only [rbw, hx, hy, rbit]; simp)⟩, by simp [intOf]; omega⟩
    · go_wp2
      obtain rfl : j = 64 := by omega
      go_ret
      exact ⟨rfl, rfl⟩
set_option maxHeartbeats 400000 in
theorem rbitwise_xor (a b : Int) (s : ByteArray) (hs : s.toList = [94]) (w : World) (ha : 0 ≤ a) (ha2 : a ≤ 18446744073709551615) (hb : 0 ≤ b) (hb2 : b ≤ 18446744073709551615) : Calls Tryz.prog 24 #[.string s, .int .u64 a, .int .u64 b] w fun e w' => e = .returned (.int .u64 (rbw 8 a b 64)) ∧ w = w' := by
  go_enter Tryz.func24, Tryz.ntmps24
  go_wp2
  go_loop [7, 8] (fun out i => ∃ j : Nat, j ≤ 64 ∧ i = .int .u64 j ∧ out = .int .u64 (rbw 8 a b j)) (fun _ i => 64 - (intOf i).toNat)
  case atStart => exact ⟨0, Nat.zero_le _, rfl, rfl⟩
  case round =>
    obtain ⟨j, hj, rfl, rfl⟩ := hrel
    by_cases hlt : j < 64
    · cases hx : ((a / 2 ^ j).tmod 2 == 1) <;> cases hy : ((b / 2 ^ j).tmod 2 == 1)
      all_goals
        go_wp2
        exact ⟨⟨j + 1, by omega, by go_num, v_int (by simp only [rbw, hx, hy, rbit]; simp)⟩, by simp [intOf]; omega⟩
    · go_wp2
      obtain rfl : j = 64 := by omega
      go_ret
      exact ⟨rfl, rfl⟩
set_option maxHeartbeats 400000 in
theorem rbitwise_not (a b : Int) (s : ByteArray) (hs : s.toList = [38, 94]) (w : World) (ha : 0 ≤ a) (ha2 : a ≤ 18446744073709551615) (hb : 0 ≤ b) (hb2 : b ≤ 18446744073709551615) : Calls Tryz.prog 24 #[.string s, .int .u64 a, .int .u64 b] w fun e w' => e = .returned (.int .u64 (rbw 9 a b 64)) ∧ w = w' := by
  go_enter Tryz.func24, Tryz.ntmps24
  go_wp2
  go_loop [7, 8] (fun out i => ∃ j : Nat, j ≤ 64 ∧ i = .int .u64 j ∧ out = .int .u64 (rbw 9 a b j)) (fun _ i => 64 - (intOf i).toNat)
  case atStart => exact ⟨0, Nat.zero_le _, rfl, rfl⟩
  case round =>
    obtain ⟨j, hj, rfl, rfl⟩ := hrel
    by_cases hlt : j < 64
    · cases hx : ((a / 2 ^ j).tmod 2 == 1) <;> cases hy : ((b / 2 ^ j).tmod 2 == 1)
      all_goals
        go_wp2
        exact ⟨⟨j + 1, by omega, by go_num, v_int (by simp only [rbw, hx, hy, rbit]; simp)⟩, by simp [intOf]; omega⟩
    · go_wp2
      obtain rfl : j = 64 := by omega
      go_ret
      exact ⟨rfl, rfl⟩
end Go.Proofs.YtdfeelmphlellaaGreatDoor
