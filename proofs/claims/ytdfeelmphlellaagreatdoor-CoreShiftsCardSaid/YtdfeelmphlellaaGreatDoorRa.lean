/- Contracts of the reference of the word layer (mullionref01), first part, for every input within the range of their types. -/
import Derived.Test.YtdfeelmphlellaaGreatDoorWb
import Derived.Test.YtdfeelmphlellaaGreatDoorPb
namespace Go.Proofs.YtdfeelmphlellaaGreatDoor
open Go.RowKit
set_option linter.unusedSimpArgs false
set_option linter.unusedVariables false

theorem rwhole_any (k : Int) (w : World) : Calls Tryz.prog 6 #[.int .i64 k] w fun e w' => e = .returned (.bool (isW k)) ∧ w = w' := by
  go_enter Tryz.func6, Tryz.ntmps6
  go_wp2
  all_goals (go_ret; refine ⟨ret_bool ?_, rfl⟩; simp [isW]; omega)
theorem rbits_any (k : Int) (w : World) : Calls Tryz.prog 15 #[.int .i64 k] w fun e w' => e = .returned (.int .i64 (bitsW k)) ∧ w = w' := by
  cases hk : isW k
  · go_enter Tryz.func15, Tryz.ntmps15
    go_wp2_with (go_at_call 6; refine (rwhole_any _ _).mono ?_; rintro e w' ⟨rfl, rfl⟩)
    all_goals (go_ret; go_tidy; refine ⟨ret_u64 ?_, rfl⟩; simp_all [bitsW, isW]; omega)
  · have hk' : 2 ≤ k ∧ k ≤ 7 := by simpa [isW] using hk
    go_enter Tryz.func15, Tryz.ntmps15
    go_wp2_with (go_at_call 6; refine (rwhole_any _ _).mono ?_; rintro e w' ⟨rfl, rfl⟩)
    all_goals (go_ret; go_tidy; refine ⟨ret_u64 ?_, rfl⟩; unfold bitsW; simp_all [isW]; omega)
theorem rsigned_any (k : Int) (w : World) (h1 : -9223372036854775808 ≤ k) (h2 : k ≤ 9223372036854775807) : Calls Tryz.prog 16 #[.int .i64 k] w fun e w' => e = .returned (.bool (sgnW k)) ∧ w = w' := by
  cases hk : isW k
  · go_enter Tryz.func16, Tryz.ntmps16
    go_wp2_with (go_at_call 6; refine (rwhole_any _ _).mono ?_; rintro e w' ⟨rfl, rfl⟩)
    all_goals (go_ret; go_tidy; refine ⟨ret_bool ?_, rfl⟩; simp [sgnW, hk])
  · have hk1 : 2 ≤ k := by simp [isW] at hk; omega
    go_enter Tryz.func16, Tryz.ntmps16
    go_wp2_with (go_at_call 6; refine (rwhole_any _ _).mono ?_; rintro e w' ⟨rfl, rfl⟩)
    all_goals (go_ret; go_tidy; refine ⟨ret_bool ?_, rfl⟩; simp [sgnW, hk]; rfl)
set_option maxHeartbeats 400000 in
theorem rwrap_any (k n : Int) (w : World) (h1 : -9223372036854775808 ≤ k) (h2 : k ≤ 9223372036854775807) (hn : 0 ≤ n) (hn2 : n ≤ 18446744073709551615) : Calls Tryz.prog 7 #[.int .i64 k, .int .u64 n] w fun e w' => e = .returned (.int .u64 (rwrap k n)) ∧ w = w' := by
  go_enter Tryz.func7, Tryz.ntmps7
  go_wp2
  go_loop [5, 6, 7] (fun out bit i => ∃ j : Nat, j ≤ 64 ∧ i = .int .i64 j ∧ out = .int .u64 (rw k n j).1 ∧ bit = .int .u64 (rw k n j).2) (fun _ _ i => 64 - (intOf i).toNat)
  case atStart => exact ⟨0, Nat.zero_le _, rfl, rfl, rfl⟩
  case round =>
    obtain ⟨j, hj, rfl, rfl, rfl⟩ := hrel
    go_wp2_with (first | (go_at_call 15; refine (rbits_any _ _).mono ?_; rintro e w' ⟨rfl, rfl⟩) | (go_at_call 16; refine (rsigned_any _ _ (by omega) (by omega)).mono ?_; rintro e w' ⟨rfl, rfl⟩))
    · rename_i hlt _ hb
      exact ⟨⟨j + 1, by omega, by go_num, v_int (by simp [rw, hb]), v_int (by simp [rw, hb])⟩, by simp [intOf]; omega⟩
    · rename_i hlt _ hb hg
      have hb' : ¬ (j : Int) < bitsW k := by omega
      have hg' : sgnW k = false := by simpa using hg
      exact ⟨⟨j + 1, by omega, by go_num, v_int (by simp [rw, hb', hg', IntKind.wrap_u64]), v_int (by simp [rw, hb', hg'])⟩, by simp [intOf]; omega⟩
    · rename_i hlt _ hb hg
      have hb' : ¬ (j : Int) < bitsW k := by omega
      have hg' : sgnW k = true := by simpa using hg
      exact ⟨⟨j + 1, by omega, by go_num, v_int (by simp [rw, hb', hg']), v_int (by simp [rw, hb', hg'])⟩, by simp [intOf]; omega⟩
    · obtain rfl : j = 64 := by omega
      go_ret
      exact ⟨rfl, rfl⟩
theorem ris_any (k n : Int) (w : World) (h1 : -9223372036854775808 ≤ k) (h2 : k ≤ 9223372036854775807) (hn : 0 ≤ n) (hn2 : n ≤ 18446744073709551615) : Calls Tryz.prog 25 #[.int .i64 k, .int .u64 n] w fun e w' => e = .returned (.bool (rIs k n)) ∧ w = w' := by
  go_enter Tryz.func25, Tryz.ntmps25
  go_wp2_with (first | (go_at_call 6; refine (rwhole_any _ _).mono ?_; rintro e w' ⟨rfl, rfl⟩) | (go_at_call 7; refine (rwrap_any _ _ _ h1 h2 hn hn2).mono ?_; rintro e w' ⟨rfl, rfl⟩))
  all_goals (go_ret; go_tidy; refine ⟨ret_bool ?_, rfl⟩; simp_all [rIs])
theorem rsigned2_any (k n : Int) (neg : Bool) (w : World) (h1 : -9223372036854775808 ≤ k) (h2 : k ≤ 9223372036854775807) (hn : 0 ≤ n) (hn2 : n ≤ 18446744073709551615) : Calls Tryz.prog 23 #[.int .i64 k, .bool neg, .int .u64 n] w fun e w' => e = .returned (.int .u64 (rwrap k (sgnd neg n))) ∧ w = w' := by
  cases neg
  · go_enter Tryz.func23, Tryz.ntmps23
    go_wp2_with (first | (go_at_call 7; refine (rwrap_any _ _ _ h1 h2 hn hn2).mono ?_; rintro e w' ⟨rfl, rfl⟩))
    go_ret; exact ⟨rfl, rfl⟩
  · have e1 : 0 ≤ IntKind.u64.wrap (-n) ∧ IntKind.u64.wrap (-n) ≤ 18446744073709551615 := by rw [IntKind.wrap_u64]; omega
    obtain ⟨e1, e2⟩ := e1
    go_enter Tryz.func23, Tryz.ntmps23
    go_wp2_with (first | (go_at_call 7; refine (rwrap_any _ _ _ h1 h2 e1 e2).mono ?_; rintro e w' ⟨rfl, rfl⟩))
    go_ret; exact ⟨rfl, rfl⟩
theorem bits_cases {k : Int} (hk : isW k = true) : bitsW k = 8 ∨ bitsW k = 32 ∨ bitsW k = 64 := by
  simp [isW] at hk
  unfold bitsW; omega
theorem rof_any (k n : Int) (w : World) (h1 : -9223372036854775808 ≤ k) (h2 : k ≤ 9223372036854775807) : Calls Tryz.prog 14 #[.int .i64 k, .int .u64 n] w fun e w' => e = .returned (.agg #[.bool (ofNeg k n), .int .u64 (ofN k n)]) ∧ Below w.heap.size w w' := by
  cases hg : sgnW k
  · go_enter Tryz.func14, Tryz.ntmps14
    go_wp2_with (first | (go_at_call 16; refine (rsigned_any _ _ h1 h2).mono ?_; rintro e w' ⟨rfl, rfl⟩))
    go_returns
    exact ⟨ret_agg2 (v_bool (by simp [ofNeg, hg])) (v_int (by simp [ofN, ofNeg, hg])), (Below.refl _ _).alloc (Nat.le_refl _) _⟩
  · by_cases hc : 9223372036854775808 ≤ n
    · go_enter Tryz.func14, Tryz.ntmps14
      go_wp2_with (first | (go_at_call 16; refine (rsigned_any _ _ h1 h2).mono ?_; rintro e w' ⟨rfl, rfl⟩))
      go_returns
      exact ⟨ret_agg2 (v_bool (by simp [ofNeg, hg, hc])) (v_int (by simp [ofN, ofNeg, hg, hc])), (Below.refl _ _).alloc (Nat.le_refl _) _⟩
    · have hc' : decide (9223372036854775808 ≤ n) = false := by simpa using hc
      go_enter Tryz.func14, Tryz.ntmps14
      go_wp2_with (first | (go_at_call 16; refine (rsigned_any _ _ h1 h2).mono ?_; rintro e w' ⟨rfl, rfl⟩))
      go_returns
      exact ⟨ret_agg2 (v_bool (by simp [ofNeg, hg]; omega)) (v_int (by simp [ofN, ofNeg, hg]; omega)), (Below.refl _ _).alloc (Nat.le_refl _) _⟩
theorem rbad1 (k x : Int) (b o c : Nat) (w : World) (h1 : -9223372036854775808 ≤ k) (h2 : k ≤ 9223372036854775807) (hx : 0 ≤ x) (hx2 : x ≤ 18446744073709551615) (h : w.cell? ⟨b, o, none⟩ = some (.int .u64 x)) : Calls Tryz.prog 22 #[.int .i64 k, .slice (some ⟨b, o, none⟩) 1 c] w fun e w' => e = .returned (.int .i64 (rBad k [x])) ∧ w = w' := by
  go_enter Tryz.func22, Tryz.ntmps22
  go_wp2_with (first | (go_at_call 6; refine (rwhole_any _ _).mono ?_; rintro e w' ⟨rfl, rfl⟩))
  · go_ret; go_tidy; refine ⟨ret_u64 ?_, rfl⟩; simp_all [rBad]
  · refine wp_loop_rounds 2 ?_
    rw [rounds_succ]
    go_wp2_with (first | (go_at_call 25; refine (ris_any _ _ _ h1 h2 hx hx2).mono ?_; rintro e w' ⟨rfl, rfl⟩))
    · go_ret; go_tidy; refine ⟨ret_u64 ?_, rfl⟩; simp_all [rBad]
    · rw [rounds_succ]
      go_wp2
      go_ret; go_tidy; refine ⟨ret_u64 ?_, rfl⟩; simp_all [rBad]
theorem rbad2 (k x y : Int) (b o c : Nat) (w : World) (h1 : -9223372036854775808 ≤ k) (h2 : k ≤ 9223372036854775807) (hx : 0 ≤ x) (hx2 : x ≤ 18446744073709551615) (hy : 0 ≤ y) (hy2 : y ≤ 18446744073709551615) (h : w.cell? ⟨b, o, none⟩ = some (.int .u64 x)) (h' : w.cell? ⟨b, o + 1, none⟩ = some (.int .u64 y)) : Calls Tryz.prog 22 #[.int .i64 k, .slice (some ⟨b, o, none⟩) 2 c] w fun e w' => e = .returned (.int .i64 (rBad k [x, y])) ∧ w = w' := by
  go_enter Tryz.func22, Tryz.ntmps22
  go_wp2_with (first | (go_at_call 6; refine (rwhole_any _ _).mono ?_; rintro e w' ⟨rfl, rfl⟩))
  · go_ret; go_tidy; refine ⟨ret_u64 ?_, rfl⟩; simp_all [rBad]
  · refine wp_loop_rounds 3 ?_
    rw [rounds_succ]
    go_wp2_with (first | (go_at_call 25; refine (ris_any _ _ _ h1 h2 hx hx2).mono ?_; rintro e w' ⟨rfl, rfl⟩))
    · go_ret; go_tidy; refine ⟨ret_u64 ?_, rfl⟩; simp_all [rBad]
    · rw [rounds_succ]
      go_wp2_with (first | (go_at_call 25; refine (ris_any _ _ _ h1 h2 hy hy2).mono ?_; rintro e w' ⟨rfl, rfl⟩))
      · go_ret; go_tidy; refine ⟨ret_u64 ?_, rfl⟩; simp_all [rBad]
      · rw [rounds_succ]
        go_wp2
        go_ret; go_tidy; refine ⟨ret_u64 ?_, rfl⟩; simp_all [rBad]
theorem rsign_any (s : ByteArray) (w : World) : Calls Tryz.prog 21 #[.string s] w fun e w' => e = .returned (.bool (decide (1 ≤ opCode s ∧ opCode s ≤ 9))) ∧ w = w' := by
  rcases opCode_cases s with hs | hs | hs | hs | hs | hs | hs | hs | hs | hs | hs | ⟨hs1, hs2, hs3, hs4, hs5, hs6, hs7, hs8, hs9, hs10, hs11⟩
  iterate 11
    · go_enter Tryz.func21, Tryz.ntmps21
      go_wp2
      go_ret; go_tidy; refine ⟨ret_bool ?_, rfl⟩; simp [opCode, hs]
  · go_enter Tryz.func21, Tryz.ntmps21
    go_wp2
    simp only [beq_eq_false_iff_ne] at hs1 hs2 hs3 hs4 hs5 hs6 hs7 hs8 hs9 hs10 hs11
    go_ret; go_tidy; refine ⟨ret_bool ?_, rfl⟩; simp [opCode, *]
/-- is one number below another? -/
theorem rbelow_any (xn yn : Bool) (x y : Int) (w : World) : Calls Tryz.prog 13 #[.agg #[.bool xn, .int .u64 x], .agg #[.bool yn, .int .u64 y]] w fun e w' => e = .returned (.bool (rBelow xn x yn y)) ∧ Below w.heap.size w w' := by
  cases xn <;> cases yn
  all_goals
    go_enter Tryz.func13, Tryz.ntmps13
    go_wp2
    go_ret
    exact ⟨ret_bool (by simp [rBelow]), by go_grown⟩
end Go.Proofs.YtdfeelmphlellaaGreatDoor
