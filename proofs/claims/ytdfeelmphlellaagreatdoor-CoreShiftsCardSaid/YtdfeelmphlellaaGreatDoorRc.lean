/- The contract of Arith of the reference of the word layer, for every input within the range of its types. -/
import Derived.Test.YtdfeelmphlellaaGreatDoorRb
namespace Go.Proofs.YtdfeelmphlellaaGreatDoor
open Go.RowKit
set_option linter.unusedSimpArgs false
set_option linter.unusedVariables false

theorem wu_lo (n : Int) : 0 ≤ IntKind.u64.wrap n := by rw [IntKind.wrap_u64]; omega
theorem wu_hi (n : Int) : IntKind.u64.wrap n ≤ 18446744073709551615 := by rw [IntKind.wrap_u64]; omega
theorem ofN_lo (k n : Int) (h : 0 ≤ n) : 0 ≤ ofN k n := by unfold ofN; split; exact wu_lo _; exact h
theorem ofN_hi (k n : Int) (h : n ≤ 18446744073709551615) : ofN k n ≤ 18446744073709551615 := by unfold ofN; split; exact wu_hi _; exact h
set_option maxHeartbeats 1000000 in
theorem rarith_add (k a b : Int) (s : ByteArray) (hs : s.toList = [43]) (w : World) (h1 : -9223372036854775808 ≤ k) (h2 : k ≤ 9223372036854775807) (ha : 0 ≤ a) (ha2 : a ≤ 18446744073709551615) (hb : 0 ≤ b) (hb2 : b ≤ 18446744073709551615) :
  Calls Tryz.prog 10 #[.int .i64 k, .string s, .int .u64 a, .int .u64 b] w fun e w' => e = .returned (.tuple #[.int .u64 (rArith k (opCode s) a b), .int .i64 (rArithErr k (opCode s) a b)]) ∧ Below w.heap.size w w' := by
  have hA0 : 0 ≤ ofN k a := ofN_lo k a ha
  have hA1 : ofN k a ≤ 18446744073709551615 := ofN_hi k a ha2
  have hB0 : 0 ≤ ofN k b := ofN_lo k b hb
  have hB1 : ofN k b ≤ 18446744073709551615 := ofN_hi k b hb2
  have hc : opCode s = 1 := by simp [opCode, hs]
  by_cases he : rBad k [a, b] = 0
  · go_enter Tryz.func10, Tryz.ntmps10
    go_wp2_with (first | (go_at_call 21; refine (rsign_any _ _).mono ?_; rintro e w' ⟨rfl, rfl⟩) | (go_at_call 22; refine (rbad2 _ a b _ _ _ _ h1 h2 ha ha2 hb hb2 (by simp) (by simp)).mono ?_; rintro e w' ⟨rfl, rfl⟩))
    refine (rof_any k a _ h1 h2).mono ?_
    rintro e w1 ⟨rfl, hw1⟩
    obtain ⟨hc1, hf1⟩ := bcell hw1
    have hz1 : w.heap.size < w1.heap.size := by have := hw1.size; simp at this; omega
    go_wp2_with fail
    refine (rof_any k b _ h1 h2).mono ?_
    rintro e w2 ⟨rfl, hw2⟩
    obtain ⟨hc2, hf2⟩ := bcell hw2
    have hz2 : w1.heap.size < w2.heap.size := by have := hw2.size; simp at this; omega
    go_wp2_with (first | (go_at_call 7; refine (rwrap_any _ _ _ h1 h2 (wu_lo _) (wu_hi _)).mono ?_; rintro e w' ⟨rfl, rfl⟩) | (go_at_call 23; refine (rsigned2_any _ _ _ _ h1 h2 (wu_lo _) (wu_hi _)).mono ?_; rintro e w' ⟨rfl, rfl⟩))
    go_ret2; go_tidy; refine ⟨ret_two (v_int ?_) (v_int ?_), below_two ((Below.refl _ _).alloc (Nat.le_refl _) _) (below_two hw1 (below_two ((Below.refl _ _).alloc (Nat.le_refl _) _) (below_two hw2 ((Below.refl _ _).alloc (Nat.le_refl _) _))))⟩
    · simp [rArith, rArithErr, hc, he, resW, rRaw]
    · simp [rArithErr, hc, he]
  · have hn : (rBad k [a, b] != 0) = true := by simp [he]
    go_enter Tryz.func10, Tryz.ntmps10
    go_wp2_with (first | (go_at_call 21; refine (rsign_any _ _).mono ?_; rintro e w' ⟨rfl, rfl⟩) | (go_at_call 22; refine (rbad2 _ a b _ _ _ _ h1 h2 ha ha2 hb hb2 (by simp) (by simp)).mono ?_; rintro e w' ⟨rfl, rfl⟩))
    go_ret2; go_tidy; refine ⟨ret_two (v_int ?_) (v_int ?_), (Below.refl _ _).alloc (Nat.le_refl _) _⟩
    · simp [rArith, rArithErr, hc, he, resW]
    · simp [rArithErr, hc, he]
set_option maxHeartbeats 1000000 in
theorem rarith_sub (k a b : Int) (s : ByteArray) (hs : s.toList = [45]) (w : World) (h1 : -9223372036854775808 ≤ k) (h2 : k ≤ 9223372036854775807) (ha : 0 ≤ a) (ha2 : a ≤ 18446744073709551615) (hb : 0 ≤ b) (hb2 : b ≤ 18446744073709551615) :
  Calls Tryz.prog 10 #[.int .i64 k, .string s, .int .u64 a, .int .u64 b] w fun e w' => e = .returned (.tuple #[.int .u64 (rArith k (opCode s) a b), .int .i64 (rArithErr k (opCode s) a b)]) ∧ Below w.heap.size w w' := by
  have hA0 : 0 ≤ ofN k a := ofN_lo k a ha
  have hA1 : ofN k a ≤ 18446744073709551615 := ofN_hi k a ha2
  have hB0 : 0 ≤ ofN k b := ofN_lo k b hb
  have hB1 : ofN k b ≤ 18446744073709551615 := ofN_hi k b hb2
  have hc : opCode s = 2 := by simp [opCode, hs]
  by_cases he : rBad k [a, b] = 0
  · go_enter Tryz.func10, Tryz.ntmps10
    go_wp2_with (first | (go_at_call 21; refine (rsign_any _ _).mono ?_; rintro e w' ⟨rfl, rfl⟩) | (go_at_call 22; refine (rbad2 _ a b _ _ _ _ h1 h2 ha ha2 hb hb2 (by simp) (by simp)).mono ?_; rintro e w' ⟨rfl, rfl⟩))
    refine (rof_any k a _ h1 h2).mono ?_
    rintro e w1 ⟨rfl, hw1⟩
    obtain ⟨hc1, hf1⟩ := bcell hw1
    have hz1 : w.heap.size < w1.heap.size := by have := hw1.size; simp at this; omega
    go_wp2_with fail
    refine (rof_any k b _ h1 h2).mono ?_
    rintro e w2 ⟨rfl, hw2⟩
    obtain ⟨hc2, hf2⟩ := bcell hw2
    have hz2 : w1.heap.size < w2.heap.size := by have := hw2.size; simp at this; omega
    go_wp2_with (first | (go_at_call 7; refine (rwrap_any _ _ _ h1 h2 (wu_lo _) (wu_hi _)).mono ?_; rintro e w' ⟨rfl, rfl⟩) | (go_at_call 23; refine (rsigned2_any _ _ _ _ h1 h2 (wu_lo _) (wu_hi _)).mono ?_; rintro e w' ⟨rfl, rfl⟩))
    go_ret2; go_tidy; refine ⟨ret_two (v_int ?_) (v_int ?_), below_two ((Below.refl _ _).alloc (Nat.le_refl _) _) (below_two hw1 (below_two ((Below.refl _ _).alloc (Nat.le_refl _) _) (below_two hw2 ((Below.refl _ _).alloc (Nat.le_refl _) _))))⟩
    · simp [rArith, rArithErr, hc, he, resW, rRaw]
    · simp [rArithErr, hc, he]
  · have hn : (rBad k [a, b] != 0) = true := by simp [he]
    go_enter Tryz.func10, Tryz.ntmps10
    go_wp2_with (first | (go_at_call 21; refine (rsign_any _ _).mono ?_; rintro e w' ⟨rfl, rfl⟩) | (go_at_call 22; refine (rbad2 _ a b _ _ _ _ h1 h2 ha ha2 hb hb2 (by simp) (by simp)).mono ?_; rintro e w' ⟨rfl, rfl⟩))
    go_ret2; go_tidy; refine ⟨ret_two (v_int ?_) (v_int ?_), (Below.refl _ _).alloc (Nat.le_refl _) _⟩
    · simp [rArith, rArithErr, hc, he, resW]
    · simp [rArithErr, hc, he]
set_option maxHeartbeats 1000000 in
theorem rarith_mul (k a b : Int) (s : ByteArray) (hs : s.toList = [42]) (w : World) (h1 : -9223372036854775808 ≤ k) (h2 : k ≤ 9223372036854775807) (ha : 0 ≤ a) (ha2 : a ≤ 18446744073709551615) (hb : 0 ≤ b) (hb2 : b ≤ 18446744073709551615) :
  Calls Tryz.prog 10 #[.int .i64 k, .string s, .int .u64 a, .int .u64 b] w fun e w' => e = .returned (.tuple #[.int .u64 (rArith k (opCode s) a b), .int .i64 (rArithErr k (opCode s) a b)]) ∧ Below w.heap.size w w' := by
  have hA0 : 0 ≤ ofN k a := ofN_lo k a ha
  have hA1 : ofN k a ≤ 18446744073709551615 := ofN_hi k a ha2
  have hB0 : 0 ≤ ofN k b := ofN_lo k b hb
  have hB1 : ofN k b ≤ 18446744073709551615 := ofN_hi k b hb2
  have hc : opCode s = 3 := by simp [opCode, hs]
  by_cases he : rBad k [a, b] = 0
  · go_enter Tryz.func10, Tryz.ntmps10
    go_wp2_with (first | (go_at_call 21; refine (rsign_any _ _).mono ?_; rintro e w' ⟨rfl, rfl⟩) | (go_at_call 22; refine (rbad2 _ a b _ _ _ _ h1 h2 ha ha2 hb hb2 (by simp) (by simp)).mono ?_; rintro e w' ⟨rfl, rfl⟩))
    refine (rof_any k a _ h1 h2).mono ?_
    rintro e w1 ⟨rfl, hw1⟩
    obtain ⟨hc1, hf1⟩ := bcell hw1
    have hz1 : w.heap.size < w1.heap.size := by have := hw1.size; simp at this; omega
    go_wp2_with fail
    refine (rof_any k b _ h1 h2).mono ?_
    rintro e w2 ⟨rfl, hw2⟩
    obtain ⟨hc2, hf2⟩ := bcell hw2
    have hz2 : w1.heap.size < w2.heap.size := by have := hw2.size; simp at this; omega
    go_wp2_with (first | (go_at_call 7; refine (rwrap_any _ _ _ h1 h2 (wu_lo _) (wu_hi _)).mono ?_; rintro e w' ⟨rfl, rfl⟩) | (go_at_call 23; refine (rsigned2_any _ _ _ _ h1 h2 (wu_lo _) (wu_hi _)).mono ?_; rintro e w' ⟨rfl, rfl⟩))
    go_ret2; go_tidy; refine ⟨ret_two (v_int ?_) (v_int ?_), below_two ((Below.refl _ _).alloc (Nat.le_refl _) _) (below_two hw1 (below_two ((Below.refl _ _).alloc (Nat.le_refl _) _) (below_two hw2 ((Below.refl _ _).alloc (Nat.le_refl _) _))))⟩
    · simp [rArith, rArithErr, hc, he, resW, rRaw]
    · simp [rArithErr, hc, he]
  · have hn : (rBad k [a, b] != 0) = true := by simp [he]
    go_enter Tryz.func10, Tryz.ntmps10
    go_wp2_with (first | (go_at_call 21; refine (rsign_any _ _).mono ?_; rintro e w' ⟨rfl, rfl⟩) | (go_at_call 22; refine (rbad2 _ a b _ _ _ _ h1 h2 ha ha2 hb hb2 (by simp) (by simp)).mono ?_; rintro e w' ⟨rfl, rfl⟩))
    go_ret2; go_tidy; refine ⟨ret_two (v_int ?_) (v_int ?_), (Below.refl _ _).alloc (Nat.le_refl _) _⟩
    · simp [rArith, rArithErr, hc, he, resW]
    · simp [rArithErr, hc, he]
set_option maxHeartbeats 1000000 in
theorem rarith_quo (k a b : Int) (s : ByteArray) (hs : s.toList = [47]) (w : World) (h1 : -9223372036854775808 ≤ k) (h2 : k ≤ 9223372036854775807) (ha : 0 ≤ a) (ha2 : a ≤ 18446744073709551615) (hb : 0 ≤ b) (hb2 : b ≤ 18446744073709551615) :
  Calls Tryz.prog 10 #[.int .i64 k, .string s, .int .u64 a, .int .u64 b] w fun e w' => e = .returned (.tuple #[.int .u64 (rArith k (opCode s) a b), .int .i64 (rArithErr k (opCode s) a b)]) ∧ Below w.heap.size w w' := by
  have hA0 : 0 ≤ ofN k a := ofN_lo k a ha
  have hA1 : ofN k a ≤ 18446744073709551615 := ofN_hi k a ha2
  have hB0 : 0 ≤ ofN k b := ofN_lo k b hb
  have hB1 : ofN k b ≤ 18446744073709551615 := ofN_hi k b hb2
  have hc : opCode s = 4 := by simp [opCode, hs]
  have hq0 : 0 ≤ ofN k a / ofN k b := Int.ediv_nonneg hA0 hB0
  have hq1 : ofN k a / ofN k b ≤ ofN k a := Int.ediv_le_self _ hA0
  by_cases he : rBad k [a, b] = 0
  · by_cases hz : ofN k b = 0
    · go_enter Tryz.func10, Tryz.ntmps10
      go_wp2_with (first | (go_at_call 21; refine (rsign_any _ _).mono ?_; rintro e w' ⟨rfl, rfl⟩) | (go_at_call 22; refine (rbad2 _ a b _ _ _ _ h1 h2 ha ha2 hb hb2 (by simp) (by simp)).mono ?_; rintro e w' ⟨rfl, rfl⟩))
      refine (rof_any k a _ h1 h2).mono ?_
      rintro e w1 ⟨rfl, hw1⟩
      obtain ⟨hc1, hf1⟩ := bcell hw1
      have hz1 : w.heap.size < w1.heap.size := by have := hw1.size; simp at this; omega
      go_wp2_with fail
      refine (rof_any k b _ h1 h2).mono ?_
      rintro e w2 ⟨rfl, hw2⟩
      obtain ⟨hc2, hf2⟩ := bcell hw2
      have hz2 : w1.heap.size < w2.heap.size := by have := hw2.size; simp at this; omega
      go_wp2
      go_ret2; go_tidy; refine ⟨ret_two (v_int ?_) (v_int ?_), below_two ((Below.refl _ _).alloc (Nat.le_refl _) _) (below_two hw1 (below_two ((Below.refl _ _).alloc (Nat.le_refl _) _) (below_two hw2 ((Below.refl _ _).alloc (Nat.le_refl _) _))))⟩
      · simp [rArith, rArithErr, hc, he, hz, resW]
      · simp [rArithErr, hc, he, hz]
    · go_enter Tryz.func10, Tryz.ntmps10
      go_wp2_with (first | (go_at_call 21; refine (rsign_any _ _).mono ?_; rintro e w' ⟨rfl, rfl⟩) | (go_at_call 22; refine (rbad2 _ a b _ _ _ _ h1 h2 ha ha2 hb hb2 (by simp) (by simp)).mono ?_; rintro e w' ⟨rfl, rfl⟩))
      refine (rof_any k a _ h1 h2).mono ?_
      rintro e w1 ⟨rfl, hw1⟩
      obtain ⟨hc1, hf1⟩ := bcell hw1
      have hz1 : w.heap.size < w1.heap.size := by have := hw1.size; simp at this; omega
      go_wp2_with fail
      refine (rof_any k b _ h1 h2).mono ?_
      rintro e w2 ⟨rfl, hw2⟩
      obtain ⟨hc2, hf2⟩ := bcell hw2
      have hz2 : w1.heap.size < w2.heap.size := by have := hw2.size; simp at this; omega
      go_wp2
      go_quiet ((go_at_call 23; exact quiet_eq (rsigned2_any _ _ _ _ h1 h2 (by first | exact wu_lo _ | omega) (by first | exact wu_hi _ | omega))))
      go_wp2
      go_ret2; go_tidy; refine ⟨ret_two (v_int ?_) (v_int ?_), below_two ((Below.refl _ _).alloc (Nat.le_refl _) _) (below_two hw1 (below_two ((Below.refl _ _).alloc (Nat.le_refl _) _) (below_two hw2 (below_dn ((Below.refl _ _).alloc (Nat.le_refl _) _) _))))⟩
      · simp [rArith, rArithErr, hc, he, hz, resW, rRaw]
      · simp [rArithErr, hc, he, hz]
  · have hn : (rBad k [a, b] != 0) = true := by simp [he]
    go_enter Tryz.func10, Tryz.ntmps10
    go_wp2_with (first | (go_at_call 21; refine (rsign_any _ _).mono ?_; rintro e w' ⟨rfl, rfl⟩) | (go_at_call 22; refine (rbad2 _ a b _ _ _ _ h1 h2 ha ha2 hb hb2 (by simp) (by simp)).mono ?_; rintro e w' ⟨rfl, rfl⟩))
    go_ret2; go_tidy; refine ⟨ret_two (v_int ?_) (v_int ?_), (Below.refl _ _).alloc (Nat.le_refl _) _⟩
    · simp [rArith, rArithErr, hc, he, resW]
    · simp [rArithErr, hc, he]
set_option maxHeartbeats 1000000 in
theorem rarith_rem (k a b : Int) (s : ByteArray) (hs : s.toList = [37]) (w : World) (h1 : -9223372036854775808 ≤ k) (h2 : k ≤ 9223372036854775807) (ha : 0 ≤ a) (ha2 : a ≤ 18446744073709551615) (hb : 0 ≤ b) (hb2 : b ≤ 18446744073709551615) :
  Calls Tryz.prog 10 #[.int .i64 k, .string s, .int .u64 a, .int .u64 b] w fun e w' => e = .returned (.tuple #[.int .u64 (rArith k (opCode s) a b), .int .i64 (rArithErr k (opCode s) a b)]) ∧ Below w.heap.size w w' := by
  have hA0 : 0 ≤ ofN k a := ofN_lo k a ha
  have hA1 : ofN k a ≤ 18446744073709551615 := ofN_hi k a ha2
  have hB0 : 0 ≤ ofN k b := ofN_lo k b hb
  have hB1 : ofN k b ≤ 18446744073709551615 := ofN_hi k b hb2
  have hc : opCode s = 5 := by simp [opCode, hs]
  have hq0 : 0 ≤ ofN k a / ofN k b := Int.ediv_nonneg hA0 hB0
  have hq1 : ofN k a / ofN k b ≤ ofN k a := Int.ediv_le_self _ hA0
  by_cases he : rBad k [a, b] = 0
  · by_cases hz : ofN k b = 0
    · go_enter Tryz.func10, Tryz.ntmps10
      go_wp2_with (first | (go_at_call 21; refine (rsign_any _ _).mono ?_; rintro e w' ⟨rfl, rfl⟩) | (go_at_call 22; refine (rbad2 _ a b _ _ _ _ h1 h2 ha ha2 hb hb2 (by simp) (by simp)).mono ?_; rintro e w' ⟨rfl, rfl⟩))
      refine (rof_any k a _ h1 h2).mono ?_
      rintro e w1 ⟨rfl, hw1⟩
      obtain ⟨hc1, hf1⟩ := bcell hw1
      have hz1 : w.heap.size < w1.heap.size := by have := hw1.size; simp at this; omega
      go_wp2_with fail
      refine (rof_any k b _ h1 h2).mono ?_
      rintro e w2 ⟨rfl, hw2⟩
      obtain ⟨hc2, hf2⟩ := bcell hw2
      have hz2 : w1.heap.size < w2.heap.size := by have := hw2.size; simp at this; omega
      go_wp2
      go_ret2; go_tidy; refine ⟨ret_two (v_int ?_) (v_int ?_), below_two ((Below.refl _ _).alloc (Nat.le_refl _) _) (below_two hw1 (below_two ((Below.refl _ _).alloc (Nat.le_refl _) _) (below_two hw2 ((Below.refl _ _).alloc (Nat.le_refl _) _))))⟩
      · simp [rArith, rArithErr, hc, he, hz, resW]
      · simp [rArithErr, hc, he, hz]
    · go_enter Tryz.func10, Tryz.ntmps10
      go_wp2_with (first | (go_at_call 21; refine (rsign_any _ _).mono ?_; rintro e w' ⟨rfl, rfl⟩) | (go_at_call 22; refine (rbad2 _ a b _ _ _ _ h1 h2 ha ha2 hb hb2 (by simp) (by simp)).mono ?_; rintro e w' ⟨rfl, rfl⟩))
      refine (rof_any k a _ h1 h2).mono ?_
      rintro e w1 ⟨rfl, hw1⟩
      obtain ⟨hc1, hf1⟩ := bcell hw1
      have hz1 : w.heap.size < w1.heap.size := by have := hw1.size; simp at this; omega
      go_wp2_with fail
      refine (rof_any k b _ h1 h2).mono ?_
      rintro e w2 ⟨rfl, hw2⟩
      obtain ⟨hc2, hf2⟩ := bcell hw2
      have hz2 : w1.heap.size < w2.heap.size := by have := hw2.size; simp at this; omega
      go_wp2
      go_quiet ((go_at_call 23; exact quiet_eq (rsigned2_any _ _ _ _ h1 h2 (by first | exact wu_lo _ | omega) (by first | exact wu_hi _ | omega))))
      go_wp2
      go_ret2; go_tidy; refine ⟨ret_two (v_int ?_) (v_int ?_), below_two ((Below.refl _ _).alloc (Nat.le_refl _) _) (below_two hw1 (below_two ((Below.refl _ _).alloc (Nat.le_refl _) _) (below_two hw2 (below_dn ((Below.refl _ _).alloc (Nat.le_refl _) _) _))))⟩
      · simp [rArith, rArithErr, hc, he, hz, resW, rRaw]
      · simp [rArithErr, hc, he, hz]
  · have hn : (rBad k [a, b] != 0) = true := by simp [he]
    go_enter Tryz.func10, Tryz.ntmps10
    go_wp2_with (first | (go_at_call 21; refine (rsign_any _ _).mono ?_; rintro e w' ⟨rfl, rfl⟩) | (go_at_call 22; refine (rbad2 _ a b _ _ _ _ h1 h2 ha ha2 hb hb2 (by simp) (by simp)).mono ?_; rintro e w' ⟨rfl, rfl⟩))
    go_ret2; go_tidy; refine ⟨ret_two (v_int ?_) (v_int ?_), (Below.refl _ _).alloc (Nat.le_refl _) _⟩
    · simp [rArith, rArithErr, hc, he, resW]
    · simp [rArithErr, hc, he]
set_option maxHeartbeats 1000000 in
theorem rarith_and (k a b : Int) (s : ByteArray) (hs : s.toList = [38]) (w : World) (h1 : -9223372036854775808 ≤ k) (h2 : k ≤ 9223372036854775807) (ha : 0 ≤ a) (ha2 : a ≤ 18446744073709551615) (hb : 0 ≤ b) (hb2 : b ≤ 18446744073709551615) :
  Calls Tryz.prog 10 #[.int .i64 k, .string s, .int .u64 a, .int .u64 b] w fun e w' => e = .returned (.tuple #[.int .u64 (rArith k (opCode s) a b), .int .i64 (rArithErr k (opCode s) a b)]) ∧ Below w.heap.size w w' := by
  have hA0 : 0 ≤ ofN k a := ofN_lo k a ha
  have hA1 : ofN k a ≤ 18446744073709551615 := ofN_hi k a ha2
  have hB0 : 0 ≤ ofN k b := ofN_lo k b hb
  have hB1 : ofN k b ≤ 18446744073709551615 := ofN_hi k b hb2
  have hc : opCode s = 6 := by simp [opCode, hs]
  by_cases he : rBad k [a, b] = 0
  · go_enter Tryz.func10, Tryz.ntmps10
    go_wp2_with (first | (go_at_call 21; refine (rsign_any _ _).mono ?_; rintro e w' ⟨rfl, rfl⟩) | (go_at_call 22; refine (rbad2 _ a b _ _ _ _ h1 h2 ha ha2 hb hb2 (by simp) (by simp)).mono ?_; rintro e w' ⟨rfl, rfl⟩))
    refine (rof_any k a _ h1 h2).mono ?_
    rintro e w1 ⟨rfl, hw1⟩
    obtain ⟨hc1, hf1⟩ := bcell hw1
    have hz1 : w.heap.size < w1.heap.size := by have := hw1.size; simp at this; omega
    go_wp2_with fail
    refine (rof_any k b _ h1 h2).mono ?_
    rintro e w2 ⟨rfl, hw2⟩
    obtain ⟨hc2, hf2⟩ := bcell hw2
    have hz2 : w1.heap.size < w2.heap.size := by have := hw2.size; simp at this; omega
    go_wp2_with (first | (go_at_call 24; refine (rbitwise_and a b s hs _ ha ha2 hb hb2).mono ?_; rintro e w' ⟨rfl, rfl⟩) | (go_at_call 7; refine (rwrap_any _ _ _ h1 h2 (rbw_bd 6 a b 64).1 (rbw_bd 6 a b 64).2).mono ?_; rintro e w' ⟨rfl, rfl⟩) | (go_at_call 23; refine (rsigned2_any _ _ _ _ h1 h2 (wu_lo _) (wu_hi _)).mono ?_; rintro e w' ⟨rfl, rfl⟩))
    go_ret2; go_tidy; refine ⟨ret_two (v_int ?_) (v_int ?_), below_two ((Below.refl _ _).alloc (Nat.le_refl _) _) (below_two hw1 (below_two ((Below.refl _ _).alloc (Nat.le_refl _) _) (below_two hw2 ((Below.refl _ _).alloc (Nat.le_refl _) _))))⟩
    · simp [rArith, rArithErr, hc, he, resW, rRaw]
    · simp [rArithErr, hc, he]
  · have hn : (rBad k [a, b] != 0) = true := by simp [he]
    go_enter Tryz.func10, Tryz.ntmps10
    go_wp2_with (first | (go_at_call 21; refine (rsign_any _ _).mono ?_; rintro e w' ⟨rfl, rfl⟩) | (go_at_call 22; refine (rbad2 _ a b _ _ _ _ h1 h2 ha ha2 hb hb2 (by simp) (by simp)).mono ?_; rintro e w' ⟨rfl, rfl⟩))
    go_ret2; go_tidy; refine ⟨ret_two (v_int ?_) (v_int ?_), (Below.refl _ _).alloc (Nat.le_refl _) _⟩
    · simp [rArith, rArithErr, hc, he, resW]
    · simp [rArithErr, hc, he]
set_option maxHeartbeats 1000000 in
theorem rarith_or (k a b : Int) (s : ByteArray) (hs : s.toList = [124]) (w : World) (h1 : -9223372036854775808 ≤ k) (h2 : k ≤ 9223372036854775807) (ha : 0 ≤ a) (ha2 : a ≤ 18446744073709551615) (hb : 0 ≤ b) (hb2 : b ≤ 18446744073709551615) :
  Calls Tryz.prog 10 #[.int .i64 k, .string s, .int .u64 a, .int .u64 b] w fun e w' => e = .returned (.tuple #[.int .u64 (rArith k (opCode s) a b), .int .i64 (rArithErr k (opCode s) a b)]) ∧ Below w.heap.size w w' := by
  have hA0 : 0 ≤ ofN k a := ofN_lo k a ha
  have hA1 : ofN k a ≤ 18446744073709551615 := ofN_hi k a ha2
  have hB0 : 0 ≤ ofN k b := ofN_lo k b hb
  have hB1 : ofN k b ≤ 18446744073709551615 := ofN_hi k b hb2
  have hc : opCode s = 7 := by simp [opCode, hs]
  by_cases he : rBad k [a, b] = 0
  · go_enter Tryz.func10, Tryz.ntmps10
    go_wp2_with (first | (go_at_call 21; refine (rsign_any _ _).mono ?_; rintro e w' ⟨rfl, rfl⟩) | (go_at_call 22; refine (rbad2 _ a b _ _ _ _ h1 h2 ha ha2 hb hb2 (by simp) (by simp)).mono ?_; rintro e w' ⟨rfl, rfl⟩))
    refine (rof_any k a _ h1 h2).mono ?_
    rintro e w1 ⟨rfl, hw1⟩
    obtain ⟨hc1, hf1⟩ := bcell hw1
    have hz1 : w.heap.size < w1.heap.size := by have := hw1.size; simp at this; omega
    go_wp2_with fail
    refine (rof_any k b _ h1 h2).mono ?_
    rintro e w2 ⟨rfl, hw2⟩
    obtain ⟨hc2, hf2⟩ := bcell hw2
    have hz2 : w1.heap.size < w2.heap.size := by have := hw2.size; simp at this; omega
    go_wp2_with (first | (go_at_call 24; refine (rbitwise_or a b s hs _ ha ha2 hb hb2).mono ?_; rintro e w' ⟨rfl, rfl⟩) | (go_at_call 7; refine (rwrap_any _ _ _ h1 h2 (rbw_bd 7 a b 64).1 (rbw_bd 7 a b 64).2).mono ?_; rintro e w' ⟨rfl, rfl⟩) | (go_at_call 23; refine (rsigned2_any _ _ _ _ h1 h2 (wu_lo _) (wu_hi _)).mono ?_; rintro e w' ⟨rfl, rfl⟩))
    go_ret2; go_tidy; refine ⟨ret_two (v_int ?_) (v_int ?_), below_two ((Below.refl _ _).alloc (Nat.le_refl _) _) (below_two hw1 (below_two ((Below.refl _ _).alloc (Nat.le_refl _) _) (below_two hw2 ((Below.refl _ _).alloc (Nat.le_refl _) _))))⟩
    · simp [rArith, rArithErr, hc, he, resW, rRaw]
    · simp [rArithErr, hc, he]
  · have hn : (rBad k [a, b] != 0) = true := by simp [he]
    go_enter Tryz.func10, Tryz.ntmps10
    go_wp2_with (first | (go_at_call 21; refine (rsign_any _ _).mono ?_; rintro e w' ⟨rfl, rfl⟩) | (go_at_call 22; refine (rbad2 _ a b _ _ _ _ h1 h2 ha ha2 hb hb2 (by simp) (by simp)).mono ?_; rintro e w' ⟨rfl, rfl⟩))
    go_ret2; go_tidy; refine ⟨ret_two (v_int ?_) (v_int ?_), (Below.refl _ _).alloc (Nat.le_refl _) _⟩
    · simp [rArith, rArithErr, hc, he, resW]
    · simp [rArithErr, hc, he]
set_option maxHeartbeats 1000000 in
theorem rarith_xor (k a b : Int) (s : ByteArray) (hs : s.toList = [94]) (w : World) (h1 : -9223372036854775808 ≤ k) (h2 : k ≤ 9223372036854775807) (ha : 0 ≤ a) (ha2 : a ≤ 18446744073709551615) (hb : 0 ≤ b) (hb2 : b ≤ 18446744073709551615) :
  Calls Tryz.prog 10 #[.int .i64 k, .string s, .int .u64 a, .int .u64 b] w fun e w' => e = .returned (.tuple #[.int .u64 (rArith k (opCode s) a b), .int .i64 (rArithErr k (opCode s) a b)]) ∧ Below w.heap.size w w' := by
  have hA0 : 0 ≤ ofN k a := ofN_lo k a ha
  have hA1 : ofN k a ≤ 18446744073709551615 := ofN_hi k a ha2
  have hB0 : 0 ≤ ofN k b := ofN_lo k b hb
  have hB1 : ofN k b ≤ 18446744073709551615 := ofN_hi k b hb2
  have hc : opCode s = 8 := by simp [opCode, hs]
  by_cases he : rBad k [a, b] = 0
  · go_enter Tryz.func10, Tryz.ntmps10
    go_wp2_with (first | (go_at_call 21; refine (rsign_any _ _).mono ?_; rintro e w' ⟨rfl, rfl⟩) | (go_at_call 22; refine (rbad2 _ a b _ _ _ _ h1 h2 ha ha2 hb hb2 (by simp) (by simp)).mono ?_; rintro e w' ⟨rfl, rfl⟩))
    refine (rof_any k a _ h1 h2).mono ?_
    rintro e w1 ⟨rfl, hw1⟩
    obtain ⟨hc1, hf1⟩ := bcell hw1
    have hz1 : w.heap.size < w1.heap.size := by have := hw1.size; simp at this; omega
    go_wp2_with fail
    refine (rof_any k b _ h1 h2).mono ?_
    rintro e w2 ⟨rfl, hw2⟩
    obtain ⟨hc2, hf2⟩ := bcell hw2
    have hz2 : w1.heap.size < w2.heap.size := by have := hw2.size; simp at this; omega
    go_wp2_with (first | (go_at_call 24; refine (rbitwise_xor a b s hs _ ha ha2 hb hb2).mono ?_; rintro e w' ⟨rfl, rfl⟩) | (go_at_call 7; refine (rwrap_any _ _ _ h1 h2 (rbw_bd 8 a b 64).1 (rbw_bd 8 a b 64).2).mono ?_; rintro e w' ⟨rfl, rfl⟩) | (go_at_call 23; refine (rsigned2_any _ _ _ _ h1 h2 (wu_lo _) (wu_hi _)).mono ?_; rintro e w' ⟨rfl, rfl⟩))
    go_ret2; go_tidy; refine ⟨ret_two (v_int ?_) (v_int ?_), below_two ((Below.refl _ _).alloc (Nat.le_refl _) _) (below_two hw1 (below_two ((Below.refl _ _).alloc (Nat.le_refl _) _) (below_two hw2 ((Below.refl _ _).alloc (Nat.le_refl _) _))))⟩
    · simp [rArith, rArithErr, hc, he, resW, rRaw]
    · simp [rArithErr, hc, he]
  · have hn : (rBad k [a, b] != 0) = true := by simp [he]
    go_enter Tryz.func10, Tryz.ntmps10
    go_wp2_with (first | (go_at_call 21; refine (rsign_any _ _).mono ?_; rintro e w' ⟨rfl, rfl⟩) | (go_at_call 22; refine (rbad2 _ a b _ _ _ _ h1 h2 ha ha2 hb hb2 (by simp) (by simp)).mono ?_; rintro e w' ⟨rfl, rfl⟩))
    go_ret2; go_tidy; refine ⟨ret_two (v_int ?_) (v_int ?_), (Below.refl _ _).alloc (Nat.le_refl _) _⟩
    · simp [rArith, rArithErr, hc, he, resW]
    · simp [rArithErr, hc, he]
set_option maxHeartbeats 1000000 in
theorem rarith_not (k a b : Int) (s : ByteArray) (hs : s.toList = [38, 94]) (w : World) (h1 : -9223372036854775808 ≤ k) (h2 : k ≤ 9223372036854775807) (ha : 0 ≤ a) (ha2 : a ≤ 18446744073709551615) (hb : 0 ≤ b) (hb2 : b ≤ 18446744073709551615) :
  Calls Tryz.prog 10 #[.int .i64 k, .string s, .int .u64 a, .int .u64 b] w fun e w' => e = .returned (.tuple #[.int .u64 (rArith k (opCode s) a b), .int .i64 (rArithErr k (opCode s) a b)]) ∧ Below w.heap.size w w' := by
  have hA0 : 0 ≤ ofN k a := ofN_lo k a ha
  have hA1 : ofN k a ≤ 18446744073709551615 := ofN_hi k a ha2
  have hB0 : 0 ≤ ofN k b := ofN_lo k b hb
  have hB1 : ofN k b ≤ 18446744073709551615 := ofN_hi k b hb2
  have hc : opCode s = 9 := by simp [opCode, hs]
  by_cases he : rBad k [a, b] = 0
  · go_enter Tryz.func10, Tryz.ntmps10
    go_wp2_with (first | (go_at_call 21; refine (rsign_any _ _).mono ?_; rintro e w' ⟨rfl, rfl⟩) | (go_at_call 22; refine (rbad2 _ a b _ _ _ _ h1 h2 ha ha2 hb hb2 (by simp) (by simp)).mono ?_; rintro e w' ⟨rfl, rfl⟩))
    refine (rof_any k a _ h1 h2).mono ?_
    rintro e w1 ⟨rfl, hw1⟩
    obtain ⟨hc1, hf1⟩ := bcell hw1
    have hz1 : w.heap.size < w1.heap.size := by have := hw1.size; simp at this; omega
    go_wp2_with fail
    refine (rof_any k b _ h1 h2).mono ?_
    rintro e w2 ⟨rfl, hw2⟩
    obtain ⟨hc2, hf2⟩ := bcell hw2
    have hz2 : w1.heap.size < w2.heap.size := by have := hw2.size; simp at this; omega
    go_wp2_with (first | (go_at_call 24; refine (rbitwise_not a b s hs _ ha ha2 hb hb2).mono ?_; rintro e w' ⟨rfl, rfl⟩) | (go_at_call 7; refine (rwrap_any _ _ _ h1 h2 (rbw_bd 9 a b 64).1 (rbw_bd 9 a b 64).2).mono ?_; rintro e w' ⟨rfl, rfl⟩) | (go_at_call 23; refine (rsigned2_any _ _ _ _ h1 h2 (wu_lo _) (wu_hi _)).mono ?_; rintro e w' ⟨rfl, rfl⟩))
    go_ret2; go_tidy; refine ⟨ret_two (v_int ?_) (v_int ?_), below_two ((Below.refl _ _).alloc (Nat.le_refl _) _) (below_two hw1 (below_two ((Below.refl _ _).alloc (Nat.le_refl _) _) (below_two hw2 ((Below.refl _ _).alloc (Nat.le_refl _) _))))⟩
    · simp [rArith, rArithErr, hc, he, resW, rRaw]
    · simp [rArithErr, hc, he]
  · have hn : (rBad k [a, b] != 0) = true := by simp [he]
    go_enter Tryz.func10, Tryz.ntmps10
    go_wp2_with (first | (go_at_call 21; refine (rsign_any _ _).mono ?_; rintro e w' ⟨rfl, rfl⟩) | (go_at_call 22; refine (rbad2 _ a b _ _ _ _ h1 h2 ha ha2 hb hb2 (by simp) (by simp)).mono ?_; rintro e w' ⟨rfl, rfl⟩))
    go_ret2; go_tidy; refine ⟨ret_two (v_int ?_) (v_int ?_), (Below.refl _ _).alloc (Nat.le_refl _) _⟩
    · simp [rArith, rArithErr, hc, he, resW]
    · simp [rArithErr, hc, he]
theorem rarith_none (k a b : Int) (s : ByteArray) (hs : opCode s = 0 ∨ 10 ≤ opCode s) (w : World) (h1 : -9223372036854775808 ≤ k) (h2 : k ≤ 9223372036854775807) (ha : 0 ≤ a) (ha2 : a ≤ 18446744073709551615) (hb : 0 ≤ b) (hb2 : b ≤ 18446744073709551615) :
  Calls Tryz.prog 10 #[.int .i64 k, .string s, .int .u64 a, .int .u64 b] w fun e w' => e = .returned (.tuple #[.int .u64 (rArith k (opCode s) a b), .int .i64 (rArithErr k (opCode s) a b)]) ∧ Below w.heap.size w w' := by
  have hd : decide (1 ≤ opCode s ∧ opCode s ≤ 9) = false := by simp; omega
  go_enter Tryz.func10, Tryz.ntmps10
  go_wp2_with (first | (go_at_call 21; refine (rsign_any _ _).mono ?_; rintro e w' ⟨rfl, rfl⟩))
  go_ret2; go_tidy; refine ⟨ret_two (v_int ?_) (v_int ?_), Below.refl _ _⟩ <;> simp [rArith, rArithErr, resW, hs]
theorem rarith_any (k a b : Int) (s : ByteArray) (w : World) (h1 : -9223372036854775808 ≤ k) (h2 : k ≤ 9223372036854775807) (ha : 0 ≤ a) (ha2 : a ≤ 18446744073709551615) (hb : 0 ≤ b) (hb2 : b ≤ 18446744073709551615) :
  Calls Tryz.prog 10 #[.int .i64 k, .string s, .int .u64 a, .int .u64 b] w fun e w' => e = .returned (.tuple #[.int .u64 (rArith k (opCode s) a b), .int .i64 (rArithErr k (opCode s) a b)]) ∧ Below w.heap.size w w' := by
  rcases opCode_cases s with hs | hs | hs | hs | hs | hs | hs | hs | hs | hs | hs | ⟨hs1, hs2, hs3, hs4, hs5, hs6, hs7, hs8, hs9, hs10, hs11⟩
  · exact rarith_add k a b s hs w h1 h2 ha ha2 hb hb2
  · exact rarith_sub k a b s hs w h1 h2 ha ha2 hb hb2
  · exact rarith_mul k a b s hs w h1 h2 ha ha2 hb hb2
  · exact rarith_and k a b s hs w h1 h2 ha ha2 hb hb2
  · exact rarith_or k a b s hs w h1 h2 ha ha2 hb hb2
  · exact rarith_xor k a b s hs w h1 h2 ha ha2 hb hb2
  · exact rarith_not k a b s hs w h1 h2 ha ha2 hb hb2
  · exact rarith_quo k a b s hs w h1 h2 ha ha2 hb hb2
  · exact rarith_rem k a b s hs w h1 h2 ha ha2 hb hb2
  iterate 2
    · exact rarith_none k a b s (by simp [opCode, hs]) w h1 h2 ha ha2 hb hb2
  · simp only [beq_eq_false_iff_ne] at hs1 hs2 hs3 hs4 hs5 hs6 hs7 hs8 hs9 hs10 hs11
    exact rarith_none k a b s (by simp [opCode, *]) w h1 h2 ha ha2 hb hb2
end Go.Proofs.YtdfeelmphlellaaGreatDoor
