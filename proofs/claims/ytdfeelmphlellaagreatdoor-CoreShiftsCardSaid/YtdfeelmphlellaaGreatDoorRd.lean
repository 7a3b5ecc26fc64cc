/- The contract of Shift of the reference of the word layer, for every input within the range of its types. -/
import Derived.Test.YtdfeelmphlellaaGreatDoorRc
namespace Go.Proofs.YtdfeelmphlellaaGreatDoor
open Go.RowKit
set_option linter.unusedSimpArgs false
set_option linter.unusedVariables false

@[go_sem] theorem num_neg (b : Bool) (n : Int) (w : World) : (Instr.field 52 (.agg #[.bool b, .int .u64 n]) 0).run Tryz.prog w = .ok (.bool b) w := by kernel_rfl
@[go_sem] theorem num_n (b : Bool) (n : Int) (w : World) : (Instr.field 52 (.agg #[.bool b, .int .u64 n]) 1).run Tryz.prog w = .ok (.int .u64 n) w := by kernel_rfl
theorem rstep_bd (k : Int) (c : Nat) (a : Int) (h0 : 0 ≤ a) (h1 : a ≤ 18446744073709551615) : 0 ≤ rstep k c a ∧ rstep k c a ≤ 18446744073709551615 := by
  unfold rstep
  split
  · unfold rwrap rw; exact ⟨wu_lo _, wu_hi _⟩
  · split
    · exact ⟨wu_lo _, wu_hi _⟩
    · omega
theorem rsh_bd (k : Int) (c : Nat) (a : Int) (h0 : 0 ≤ a) (h1 : a ≤ 18446744073709551615) : ∀ i, 0 ≤ rsh k c a i ∧ rsh k c a i ≤ 18446744073709551615
  | 0 => ⟨h0, h1⟩
  | i + 1 => rstep_bd k c _ (rsh_bd k c a h0 h1 i).1 (rsh_bd k c a h0 h1 i).2
set_option maxHeartbeats 1000000 in
theorem rshift_shl (k a by' n : Int) (s : ByteArray) (hs : s.toList = [60, 60]) (w : World) (h1 : -9223372036854775808 ≤ k) (h2 : k ≤ 9223372036854775807) (h3 : -9223372036854775808 ≤ by') (h4 : by' ≤ 9223372036854775807) (ha : 0 ≤ a) (ha2 : a ≤ 18446744073709551615) (hb : 0 ≤ n) (hb2 : n ≤ 18446744073709551615) :
  Calls Tryz.prog 12 #[.int .i64 k, .string s, .int .u64 a, .int .i64 by', .int .u64 n] w fun e w' => e = .returned (.tuple #[.int .u64 (rShift k (opCode s) a by' n), .int .i64 (rShiftErr k (opCode s) a by' n)]) ∧ Below w.heap.size w w' := by
  have hc : opCode s = 10 := by simp [opCode, hs]
  cases hk : isW k
  · go_enter Tryz.func12, Tryz.ntmps12
    go_wp2_with (first | (go_at_call 6; refine (rwhole_any _ _).mono ?_; rintro e w' ⟨rfl, rfl⟩) | (go_at_call 25; refine (ris_any _ _ _ (by omega) (by omega) (by omega) (by omega)).mono ?_; rintro e w' ⟨rfl, rfl⟩))
    go_ret2; go_tidy; refine ⟨ret_two (v_int ?_) (v_int ?_), Below.refl _ _⟩ <;> simp [rShift, rShiftErr, resW, hc, hk]
  cases hby : isW by'
  · go_enter Tryz.func12, Tryz.ntmps12
    go_wp2_with (first | (go_at_call 6; refine (rwhole_any _ _).mono ?_; rintro e w' ⟨rfl, rfl⟩) | (go_at_call 25; refine (ris_any _ _ _ (by omega) (by omega) (by omega) (by omega)).mono ?_; rintro e w' ⟨rfl, rfl⟩))
    go_ret2; go_tidy; refine ⟨ret_two (v_int ?_) (v_int ?_), Below.refl _ _⟩ <;> simp [rShift, rShiftErr, resW, hc, hk, hby]
  cases hia : rIs k a
  · go_enter Tryz.func12, Tryz.ntmps12
    go_wp2_with (first | (go_at_call 6; refine (rwhole_any _ _).mono ?_; rintro e w' ⟨rfl, rfl⟩) | (go_at_call 25; refine (ris_any _ _ _ (by omega) (by omega) (by omega) (by omega)).mono ?_; rintro e w' ⟨rfl, rfl⟩))
    go_ret2; go_tidy; refine ⟨ret_two (v_int ?_) (v_int ?_), Below.refl _ _⟩ <;> simp [rShift, rShiftErr, resW, hc, hk, hby, hia]
  cases hin : rIs by' n
  · go_enter Tryz.func12, Tryz.ntmps12
    go_wp2_with (first | (go_at_call 6; refine (rwhole_any _ _).mono ?_; rintro e w' ⟨rfl, rfl⟩) | (go_at_call 25; refine (ris_any _ _ _ (by omega) (by omega) (by omega) (by omega)).mono ?_; rintro e w' ⟨rfl, rfl⟩))
    go_ret2; go_tidy; refine ⟨ret_two (v_int ?_) (v_int ?_), Below.refl _ _⟩ <;> simp [rShift, rShiftErr, resW, hc, hk, hby, hia, hin]
  cases hg : ofNeg by' n
  · go_enter Tryz.func12, Tryz.ntmps12
    go_wp2_with (first | (go_at_call 6; refine (rwhole_any _ _).mono ?_; rintro e w' ⟨rfl, rfl⟩) | (go_at_call 25; refine (ris_any _ _ _ (by omega) (by omega) (by omega) (by omega)).mono ?_; rintro e w' ⟨rfl, rfl⟩))
    refine (rof_any by' n _ h3 h4).mono ?_
    rintro e w1 ⟨rfl, hw1⟩
    obtain ⟨hc1, hf1⟩ := bcell hw1
    go_wp2
    go_loopw [2, 12] (fun x i wr => ∃ j : Nat, j ≤ 64 ∧ (j : Int) ≤ n ∧ i = .int .u64 j ∧ x = .int .u64 (rsh k 10 a j) ∧ Below w.heap.size w wr) (fun _ i _ => 64 - (intOf i).toNat)
    case atStart => exact ⟨0, Nat.zero_le _, by omega, rfl, rfl, hw1⟩
    case round =>
      obtain ⟨j, hj, hjn, rfl, rfl, hwr⟩ := hrel
      have hb1 := (rsh_bd k 10 a ha ha2 j).1
      have hb2' := (rsh_bd k 10 a ha ha2 j).2
      by_cases hlt : (j : Int) < n ∧ j < 64
      · obtain ⟨hl1, hl2⟩ := hlt
        go_wp2_with (first | (go_at_call 7; refine (rwrap_any _ _ _ h1 h2 (wu_lo _) (wu_hi _)).mono ?_; rintro e w' ⟨rfl, rfl⟩))
        exact ⟨⟨j + 1, by omega, by omega, by go_num, v_int (by simp [rsh, rstep]), hwr⟩, by simp [intOf]; omega⟩
      · have hj2 : j = min n.toNat 64 := by omega
        have hd : (decide ((j : Int) < n) && decide (j < 64)) = false := by simp; omega
        by_cases hl1 : (j : Int) < n
        · have hl2 : ¬ j < 64 := by omega
          go_wp2
          go_ret2; go_tidy; refine ⟨ret_two (v_int ?_) (v_int ?_), hwr⟩ <;> simp [rShift, rShiftErr, resW, hc, hk, hby, hia, hin, hg, ← hj2]
        · go_wp2
          go_ret2; go_tidy; refine ⟨ret_two (v_int ?_) (v_int ?_), hwr⟩ <;> simp [rShift, rShiftErr, resW, hc, hk, hby, hia, hin, hg, ← hj2]
  · go_enter Tryz.func12, Tryz.ntmps12
    go_wp2_with (first | (go_at_call 6; refine (rwhole_any _ _).mono ?_; rintro e w' ⟨rfl, rfl⟩) | (go_at_call 25; refine (ris_any _ _ _ (by omega) (by omega) (by omega) (by omega)).mono ?_; rintro e w' ⟨rfl, rfl⟩))
    refine (rof_any by' n _ h3 h4).mono ?_
    rintro e w1 ⟨rfl, hw1⟩
    go_wp2
    go_ret2; go_tidy; refine ⟨ret_two (v_int ?_) (v_int ?_), hw1⟩ <;> simp [rShift, rShiftErr, resW, hc, hk, hby, hia, hin, hg]
set_option maxHeartbeats 1000000 in
theorem rshift_shr (k a by' n : Int) (s : ByteArray) (hs : s.toList = [62, 62]) (w : World) (h1 : -9223372036854775808 ≤ k) (h2 : k ≤ 9223372036854775807) (h3 : -9223372036854775808 ≤ by') (h4 : by' ≤ 9223372036854775807) (ha : 0 ≤ a) (ha2 : a ≤ 18446744073709551615) (hb : 0 ≤ n) (hb2 : n ≤ 18446744073709551615) :
  Calls Tryz.prog 12 #[.int .i64 k, .string s, .int .u64 a, .int .i64 by', .int .u64 n] w fun e w' => e = .returned (.tuple #[.int .u64 (rShift k (opCode s) a by' n), .int .i64 (rShiftErr k (opCode s) a by' n)]) ∧ Below w.heap.size w w' := by
  have hc : opCode s = 11 := by simp [opCode, hs]
  cases hk : isW k
  · go_enter Tryz.func12, Tryz.ntmps12
    go_wp2_with (first | (go_at_call 6; refine (rwhole_any _ _).mono ?_; rintro e w' ⟨rfl, rfl⟩) | (go_at_call 25; refine (ris_any _ _ _ (by omega) (by omega) (by omega) (by omega)).mono ?_; rintro e w' ⟨rfl, rfl⟩))
    go_ret2; go_tidy; refine ⟨ret_two (v_int ?_) (v_int ?_), Below.refl _ _⟩ <;> simp [rShift, rShiftErr, resW, hc, hk]
  cases hby : isW by'
  · go_enter Tryz.func12, Tryz.ntmps12
    go_wp2_with (first | (go_at_call 6; refine (rwhole_any _ _).mono ?_; rintro e w' ⟨rfl, rfl⟩) | (go_at_call 25; refine (ris_any _ _ _ (by omega) (by omega) (by omega) (by omega)).mono ?_; rintro e w' ⟨rfl, rfl⟩))
    go_ret2; go_tidy; refine ⟨ret_two (v_int ?_) (v_int ?_), Below.refl _ _⟩ <;> simp [rShift, rShiftErr, resW, hc, hk, hby]
  cases hia : rIs k a
  · go_enter Tryz.func12, Tryz.ntmps12
    go_wp2_with (first | (go_at_call 6; refine (rwhole_any _ _).mono ?_; rintro e w' ⟨rfl, rfl⟩) | (go_at_call 25; refine (ris_any _ _ _ (by omega) (by omega) (by omega) (by omega)).mono ?_; rintro e w' ⟨rfl, rfl⟩))
    go_ret2; go_tidy; refine ⟨ret_two (v_int ?_) (v_int ?_), Below.refl _ _⟩ <;> simp [rShift, rShiftErr, resW, hc, hk, hby, hia]
  cases hin : rIs by' n
  · go_enter Tryz.func12, Tryz.ntmps12
    go_wp2_with (first | (go_at_call 6; refine (rwhole_any _ _).mono ?_; rintro e w' ⟨rfl, rfl⟩) | (go_at_call 25; refine (ris_any _ _ _ (by omega) (by omega) (by omega) (by omega)).mono ?_; rintro e w' ⟨rfl, rfl⟩))
    go_ret2; go_tidy; refine ⟨ret_two (v_int ?_) (v_int ?_), Below.refl _ _⟩ <;> simp [rShift, rShiftErr, resW, hc, hk, hby, hia, hin]
  cases hg : ofNeg by' n
  · go_enter Tryz.func12, Tryz.ntmps12
    go_wp2_with (first | (go_at_call 6; refine (rwhole_any _ _).mono ?_; rintro e w' ⟨rfl, rfl⟩) | (go_at_call 25; refine (ris_any _ _ _ (by omega) (by omega) (by omega) (by omega)).mono ?_; rintro e w' ⟨rfl, rfl⟩))
    refine (rof_any by' n _ h3 h4).mono ?_
    rintro e w1 ⟨rfl, hw1⟩
    obtain ⟨hc1, hf1⟩ := bcell hw1
    go_wp2
    go_loopw [2, 12] (fun x i wr => ∃ j : Nat, j ≤ 64 ∧ (j : Int) ≤ n ∧ i = .int .u64 j ∧ x = .int .u64 (rsh k 11 a j) ∧ Below w.heap.size w wr) (fun _ i _ => 64 - (intOf i).toNat)
    case atStart => exact ⟨0, Nat.zero_le _, by omega, rfl, rfl, hw1⟩
    case round =>
      obtain ⟨j, hj, hjn, rfl, rfl, hwr⟩ := hrel
      have hb1 := (rsh_bd k 11 a ha ha2 j).1
      have hb2' := (rsh_bd k 11 a ha ha2 j).2
      by_cases hlt : (j : Int) < n ∧ j < 64
      · obtain ⟨hl1, hl2⟩ := hlt
        cases hog : ofNeg k (rsh k 11 a j)
        all_goals
          go_wp2_with (fail)
          refine (rof_any k _ _ h1 h2).mono ?_
          rintro e w2 ⟨rfl, hw2⟩
          obtain ⟨hc2, hf2⟩ := bcell hw2
          go_wp2
          exact ⟨⟨j + 1, by omega, by omega, by go_num, v_int (by (simp [rsh, rstep, hog]; try (rw [IntKind.wrap_u64]; omega))), hwr.trans (hw2.mono hwr.size)⟩, by simp [intOf]; omega⟩
      · have hj2 : j = min n.toNat 64 := by omega
        have hd : (decide ((j : Int) < n) && decide (j < 64)) = false := by simp; omega
        by_cases hl1 : (j : Int) < n
        · have hl2 : ¬ j < 64 := by omega
          go_wp2
          go_ret2; go_tidy; refine ⟨ret_two (v_int ?_) (v_int ?_), hwr⟩ <;> simp [rShift, rShiftErr, resW, hc, hk, hby, hia, hin, hg, ← hj2]
        · go_wp2
          go_ret2; go_tidy; refine ⟨ret_two (v_int ?_) (v_int ?_), hwr⟩ <;> simp [rShift, rShiftErr, resW, hc, hk, hby, hia, hin, hg, ← hj2]
  · go_enter Tryz.func12, Tryz.ntmps12
    go_wp2_with (first | (go_at_call 6; refine (rwhole_any _ _).mono ?_; rintro e w' ⟨rfl, rfl⟩) | (go_at_call 25; refine (ris_any _ _ _ (by omega) (by omega) (by omega) (by omega)).mono ?_; rintro e w' ⟨rfl, rfl⟩))
    refine (rof_any by' n _ h3 h4).mono ?_
    rintro e w1 ⟨rfl, hw1⟩
    go_wp2
    go_ret2; go_tidy; refine ⟨ret_two (v_int ?_) (v_int ?_), hw1⟩ <;> simp [rShift, rShiftErr, resW, hc, hk, hby, hia, hin, hg]
theorem rshift_any (k a by' n : Int) (s : ByteArray) (w : World) (h1 : -9223372036854775808 ≤ k) (h2 : k ≤ 9223372036854775807) (h3 : -9223372036854775808 ≤ by') (h4 : by' ≤ 9223372036854775807) (ha : 0 ≤ a) (ha2 : a ≤ 18446744073709551615) (hb : 0 ≤ n) (hb2 : n ≤ 18446744073709551615) :
  Calls Tryz.prog 12 #[.int .i64 k, .string s, .int .u64 a, .int .i64 by', .int .u64 n] w fun e w' => e = .returned (.tuple #[.int .u64 (rShift k (opCode s) a by' n), .int .i64 (rShiftErr k (opCode s) a by' n)]) ∧ Below w.heap.size w w' := by
  by_cases hs : s.toList = [60, 60]
  · exact rshift_shl k a by' n s hs w h1 h2 h3 h4 ha ha2 hb hb2
  by_cases hs' : s.toList = [62, 62]
  · exact rshift_shr k a by' n s hs' w h1 h2 h3 h4 ha ha2 hb hb2
  have e1 := opCode_10 hs
  have e2 := opCode_11 hs'
  have n1 : (s.toList != [60, 60]) = true := by simp [hs]
  have n2 : (s.toList != [62, 62]) = true := by simp [hs']
  have n3 : (s.toList == [60, 60]) = false := by simp [hs]
  have n4 : (s.toList == [62, 62]) = false := by simp [hs']
  clear hs hs'
  go_enter Tryz.func12, Tryz.ntmps12
  go_wp2_with (first | (go_at_call 6; refine (rwhole_any _ _).mono ?_; rintro e w' ⟨rfl, rfl⟩) | (go_at_call 25; refine (ris_any _ _ _ (by omega) (by omega) (by omega) (by omega)).mono ?_; rintro e w' ⟨rfl, rfl⟩))
  go_ret2; go_tidy; refine ⟨ret_two (v_int ?_) (v_int ?_), Below.refl _ _⟩ <;> simp [rShift, rShiftErr, resW, e1, e2]
end Go.Proofs.YtdfeelmphlellaaGreatDoor
