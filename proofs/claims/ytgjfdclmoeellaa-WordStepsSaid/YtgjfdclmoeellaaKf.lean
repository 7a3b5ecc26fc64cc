/- The walk of the law WordSteps: it returns true for every input within the range of its types. -/
import Derived.Test.YtgjfdclmoeellaaKb
import Derived.Test.YtgjfdclmoeellaaPf
namespace Go.Proofs.Ytgjfdclmoeellaa
open Go.RowKit
set_option linter.unusedSimpArgs false
set_option linter.unusedVariables false

theorem steps_facts (k a m n : Int) (c : Nat) (hc : c = 10 ∨ c = 11) (ha : inW k a = true) (a0 : 0 ≤ a) (a1 : a ≤ 18446744073709551615) (m0 : 0 ≤ m) (m1 : m ≤ 255) (n0 : 0 ≤ n) (n1 : n ≤ 255) :
    ∃ u v : Int, (0 ≤ u ∧ u ≤ 18446744073709551615) ∧ wrapW k (shiftRaw k c a (m / 2)) = u ∧ shiftErr k c a 3 (m / 2) = 0 ∧ wrapW k (shiftRaw k c u (n / 2)) = v ∧ shiftErr k c u 3 (n / 2) = 0 ∧ wrapW k (shiftRaw k c a (m / 2 + n / 2)) = v ∧ shiftErr k c a 3 (m / 2 + n / 2) = 0 := by
  obtain ⟨i, hi⟩ := Int.eq_ofNat_of_zero_le (show 0 ≤ m / 2 by omega)
  obtain ⟨j, hj⟩ := Int.eq_ofNat_of_zero_le (show 0 ≤ n / 2 by omega)
  obtain ⟨⟨iu, u0, u1⟩, h2⟩ := shv_two k a c i j hc ha a0 a1
  rw [hi, hj]
  exact ⟨_, _, ⟨u0, u1⟩, rfl, shift_ok k a _ c hc ha (by omega) (by omega), rfl, shift_ok k _ _ c hc iu (by omega) (by omega), h2.symm, shift_ok k a _ c hc ha (by omega) (by omega)⟩

set_option maxRecDepth 100000 in
set_option maxHeartbeats 4000000 in
theorem walkWordSteps (k x y m n : Int) (h1 : -9223372036854775808 ≤ k) (h2 : k ≤ 9223372036854775807) (x0 : 0 ≤ x) (x1 : x ≤ 18446744073709551615) (y0 : 0 ≤ y) (y1 : y ≤ 18446744073709551615) (m0 : 0 ≤ m) (m1 : m ≤ 255) (n0 : 0 ≤ n) (n1 : n ≤ 255) (w : World) :
    Calls Try.prog 12 #[.int .i64 k, .int .u64 x, .int .u64 y, .int .u8 m, .int .u8 n] w fun e w' => e = .returned (.bool true) ∧ Below w.heap.size w w' := by
  cases hk : isW k
  · go_enter Try.func12, Try.ntmps12
    go_wp2_with (first | (go_at_call 18; refine (answers01 _).mono ?_; rintro e w' ⟨rfl, rfl⟩) | (go_at_call 19; refine (rwhole_any _ _).mono ?_; rintro e w' ⟨rfl, rfl⟩))
    go_ret; exact ⟨rfl, Below.refl _ _⟩
  have ex := rwrap_eq k x hk x0 x1
  have ey := rwrap_eq k y hk y0 y1
  obtain ⟨a0, a1⟩ := wrapW_bd k x x0 x1
  obtain ⟨b0, b1⟩ := wrapW_bd k y y0 y1
  have ia := inW_wrapW k x hk x0 x1
  have ib := inW_wrapW k y hk y0 y1
  generalize wrapW k x = a at *
  generalize wrapW k y = b at *
  have o1 := op_add
  have o6 := op_and
  have o7 := op_or
  have o8 := op_xor
  have o9 := op_not
  have o10 := op_shl
  have o11 := op_shr
  obtain ⟨u, v, ⟨u0, u1⟩, e1, e2, e3, e4, e5, e6⟩ := steps_facts k a m n 10 (.inl rfl) ia a0 a1 m0 m1 n0 n1
  obtain ⟨u', v', ⟨u0', u1'⟩, e1', e2', e3', e4', e5', e6'⟩ := steps_facts k a m n 11 (.inr rfl) ia a0 a1 m0 m1 n0 n1
  obtain ⟨an, o, xo, no, ⟨an0, an1⟩, ⟨xo0, xo1⟩, f1, f2, f3, f4, f5, f6, f7⟩ := bit_law k a b ia ib a0 a1 b0 b1
  obtain ⟨tw, g1, g2⟩ : ∃ tw, arithW k 1 a a = tw ∧ wrapW k (shiftRaw k 10 a 1) = tw := by
    refine ⟨_, rfl, ?_⟩
    rw [arith_val (c := 1) (by decide) (by decide) ia ia (by omega)]
    have h := shl_val k a 1
    unfold shv at h
    rw [show ((1 : Nat) : Int) = 1 from rfl] at h
    rw [h]; congr 1; simp only [rawW]; congr 1; omega
  have g3 : shiftErr k 10 a 7 1 = 0 := by
    have h7 : isW 7 = true := by decide
    have h71 : inW 7 1 = true := by decide
    have hs : ¬ sval 7 1 < 0 := by decide
    unfold shiftErr
    rw [if_pos ⟨.inl rfl, hk, h7⟩, ia, h71]
    simp [hs]
  clear ia ib
  go_enter Try.func12, Try.ntmps12
  go_wp2_with (first | (go_at_call 18; refine (answers01 _).mono ?_; rintro e w' ⟨rfl, rfl⟩) | (go_at_call 19; refine (rwhole_any _ _).mono ?_; rintro e w' ⟨rfl, rfl⟩) | (go_at_call 21; refine (rwrap_any _ _ _ h1 h2 (by omega) (by omega)).mono ?_; rintro e w' ⟨rfl, rfl⟩))
  refine wp_loop_rounds 3 ?_
  rw [rounds_succ]
  go_wp2_with (first | (go_at_call 30; refine (shift_any _ _ _ _ _ _ h1 h2 (by omega) (by omega) (by omega) (by omega) (by omega) (by omega)).mono ?_; rintro e w' ⟨rfl, rfl⟩))
  rw [rounds_succ]
  go_wp2_with (first | (go_at_call 30; refine (shift_any _ _ _ _ _ _ h1 h2 (by omega) (by omega) (by omega) (by omega) (by omega) (by omega)).mono ?_; rintro e w' ⟨rfl, rfl⟩))
  rw [rounds_succ]
  go_wp2_with (first | (go_at_call 30; refine (shift_any _ _ _ _ _ _ h1 h2 (by omega) (by omega) (by omega) (by omega) (by omega) (by omega)).mono ?_; rintro e w' ⟨rfl, rfl⟩) | (go_at_call 32; refine (arith_any _ _ _ _ _ h1 h2 (by omega) (by omega) (by omega) (by omega)).mono ?_; rintro e w1 ⟨rfl, hw⟩))
  go_ret
  exact ⟨rfl, by repeat (first | assumption | exact (Below.refl _ _).alloc (Nat.le_refl _) _ | exact Below.refl _ _ | refine below_two ?_ (by assumption))⟩
end Go.Proofs.Ytgjfdclmoeellaa
