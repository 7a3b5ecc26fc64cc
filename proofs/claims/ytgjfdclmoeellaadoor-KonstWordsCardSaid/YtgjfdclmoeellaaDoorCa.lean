/- Contracts of package konst: what each of its functions returns for every input within the range of its types. -/
import Derived.Test.YtgjfdclmoeellaaDoorPk
import Derived.Test.YtgjfdclmoeellaaDoorWa
import Derived.Laws.Externs
import Derived.Laws.MathBits
namespace Go.Proofs.YtgjfdclmoeellaaDoor
open Go.RowKit
set_option linter.unusedSimpArgs false
set_option linter.unusedVariables false

theorem ksound_any (neg : Bool) (n : Int) (w : World) : Calls Tryd.prog 28 #[.bool neg, .int .u64 n] w fun e w' => e = .returned (.bool (sound neg n)) ∧ w = w' := by
  cases neg
  · go_enter Tryd.func28, Tryd.ntmps28
    go_wp2
    go_ret; exact ⟨ret_bool (by simp [sound]), rfl⟩
  · by_cases h : 0 < n
    · go_enter Tryd.func28, Tryd.ntmps28
      go_wp2
      go_ret; exact ⟨ret_bool (by simp [sound, h]), rfl⟩
    · go_enter Tryd.func28, Tryd.ntmps28
      go_wp2
      go_ret; exact ⟨ret_bool (by simp [sound]; omega), rfl⟩
theorem kmade_any (neg over : Bool) (n : Int) (w : World) : Calls Tryd.prog 38 #[.bool neg, .int .u64 n, .bool over] w fun e w' => e = .returned (.tuple #[.bool (kMade neg n over).1, .int .u64 (kMade neg n over).2.1, .int .i64 (kMade neg n over).2.2]) ∧ w = w' := by
  cases over
  · cases neg
    · go_enter Tryd.func38, Tryd.ntmps38
      go_wp2_with (first | (go_at_call 28; refine (ksound_any _ _ _).mono ?_; rintro e w' ⟨rfl, rfl⟩))
      all_goals (go_ret3; go_tidy; refine ⟨ret_three (v_bool ?_) (v_int ?_) (v_int ?_), rfl⟩ <;> simp_all [kMade, sound])
    · by_cases h : 0 < n
      · cases hs : sound true n
        · go_enter Tryd.func38, Tryd.ntmps38
          go_wp2_with (first | (go_at_call 28; refine (ksound_any _ _ _).mono ?_; rintro e w' ⟨rfl, rfl⟩))
          all_goals (go_ret3; go_tidy; refine ⟨ret_three (v_bool ?_) (v_int ?_) (v_int ?_), rfl⟩ <;> simp_all [kMade])
        · go_enter Tryd.func38, Tryd.ntmps38
          go_wp2_with (first | (go_at_call 28; refine (ksound_any _ _ _).mono ?_; rintro e w' ⟨rfl, rfl⟩))
          all_goals (go_ret3; go_tidy; refine ⟨ret_three (v_bool ?_) (v_int ?_) (v_int ?_), rfl⟩ <;> simp_all [kMade])
      · have hs : sound false n = true := by simp [sound]
        have hd : decide (0 < n) = false := by simpa using h
        go_enter Tryd.func38, Tryd.ntmps38
        go_wp2_with (first | (go_at_call 28; refine (ksound_any _ _ _).mono ?_; rintro e w' ⟨rfl, rfl⟩))
        go_ret3; go_tidy
        have hd : decide (0 < n) = false := by simp; omega
        refine ⟨ret_three (v_bool ?_) (v_int ?_) (v_int ?_), rfl⟩ <;> simp [kMade, hd, hs]
  · go_enter Tryd.func38, Tryd.ntmps38
    go_wp2_with (first | (go_at_call 28; refine (ksound_any _ _ _).mono ?_; rintro e w' ⟨rfl, rfl⟩))
    all_goals (go_ret3; go_tidy; refine ⟨ret_three (v_bool ?_) (v_int ?_) (v_int ?_), rfl⟩ <;> simp_all [kMade])
theorem add64_run (x y : Int) (hx : 0 ≤ x) (hy : 0 ≤ y) (w : World) : (callFunc 45 #[.int .u64 x, .int .u64 y, .int .u64 0]).run Tryd.prog w = .ok (.value (.tuple #[.int .u64 ((x + y) % 18446744073709551616), .int .u64 ((x + y) / 18446744073709551616)])) w := by
  have h := run_callFunc_extern (e := add64Entry) Tryd.func45 (by kernel_rfl) (by kernel_rfl) (by kernel_rfl) (by kernel_rfl) #[.int .u64 x, .int .u64 y, .int .u64 0] w
  rw [run_add64 x y 0 hx hy (by decide) (by decide) w, Int.add_zero] at h
  exact h
theorem kadd_any (an bn : Bool) (a b : Int) (w : World) (a0 : 0 ≤ a) (a1 : a ≤ 18446744073709551615) (b0 : 0 ≤ b) (b1 : b ≤ 18446744073709551615) :
    Calls Tryd.prog 36 #[.bool an, .int .u64 a, .bool bn, .int .u64 b] w fun e w' => e = .returned (.tuple #[.bool (kres (kval an a + kval bn b)).1, .int .u64 (kres (kval an a + kval bn b)).2.1, .int .i64 (kres (kval an a + kval bn b)).2.2]) ∧ w = w' := by
  by_cases hs : an = bn
  · subst hs
    have hr := fun w => add64_run a b a0 b0 w
    have hk := add_same an a b a0 a1 b0 b1
    go_enter Tryd.func36, Tryd.ntmps36
    go_wp2_with (first | (go_at_call 38; refine (kmade_any _ _ _ _).mono ?_; rintro e w' ⟨rfl, rfl⟩))
    go_ret3; exact ⟨rfl, rfl⟩
  · have hs' : (an == bn) = false := by simpa using hs
    by_cases h : b ≤ a
    · have hk := kMade_eq an (a - b) (kval an a + kval bn b) (by omega) (by omega) (by unfold kval; cases an <;> cases bn <;> simp at hs ⊢ <;> omega)
      clear hs
      go_enter Tryd.func36, Tryd.ntmps36
      go_wp2_with (first | (go_at_call 38; refine (kmade_any _ _ _ _).mono ?_; rintro e w' ⟨rfl, rfl⟩))
      go_ret3; exact ⟨rfl, rfl⟩
    · have hk := kMade_eq bn (b - a) (kval an a + kval bn b) (by omega) (by omega) (by unfold kval; cases an <;> cases bn <;> simp at hs ⊢ <;> omega)
      clear hs
      go_enter Tryd.func36, Tryd.ntmps36
      go_wp2_with (first | (go_at_call 38; refine (kmade_any _ _ _ _).mono ?_; rintro e w' ⟨rfl, rfl⟩))
      go_ret3; exact ⟨rfl, rfl⟩

theorem mul64_any (x y : Int) (w : World) (x0 : 0 ≤ x) (x1 : x ≤ 18446744073709551615) (y0 : 0 ≤ y) (y1 : y ≤ 18446744073709551615) :
    Calls Tryd.prog 37 #[.int .u64 x, .int .u64 y] w fun e w' => e = .returned (.tuple #[.int .u64 (x * y / 18446744073709551616), .int .u64 (x * y % 18446744073709551616)]) ∧ w = w' := by
  have hx := and_mask x x0 x1
  have hy := and_mask y y0 y1
  have ht := fun z => and_mask (IntKind.u64.wrap z) (by rw [IntKind.wrap_u64]; omega) (by rw [IntKind.wrap_u64]; omega)
  go_enter Tryd.func37, Tryd.ntmps37
  go_wp2
  go_ret2; go_tidy
  refine ⟨ret_two (v_int ?_) (v_int ?_), rfl⟩
  · have h := mul64_arith x y x0 (by omega) y0 (by omega)
    simp only [IntKind.wrap_u64]
    exact h
  · exact IntKind.wrap_u64 _
theorem kshl_any (neg : Bool) (a b : Int) (s : ByteArray) (hs : s.toList = [60, 60]) (w : World) (a0 : 0 ≤ a) (a1 : a ≤ 18446744073709551615) (b0 : 0 ≤ b) (b1 : b ≤ 18446744073709551615) :
    Calls Tryd.prog 39 #[.string s, .bool neg, .int .u64 a, .int .u64 b] w fun e w' => e = .returned (.tuple #[.bool (kres (kval neg a * 2 ^ b.toNat)).1, .int .u64 (kres (kval neg a * 2 ^ b.toNat)).2.1, .int .i64 (kres (kval neg a * 2 ^ b.toNat)).2.2]) ∧ w = w' := by
  by_cases h0 : a = 0
  · subst h0
    have hk : kres (kval neg 0 * 2 ^ b.toNat) = (false, 0, 0) := by
      have e : kval neg 0 = 0 := by unfold kval; split <;> rfl
      rw [e, Int.zero_mul, kres_zero]
    have H := Lib.hid hk
    clear hk
    go_enter Tryd.func39, Tryd.ntmps39
    go_wp2_with fail
    go_ret3; go_tidy
    rw [H.out]; exact ⟨rfl, rfl⟩
  · have hk := shl_made neg a b (by omega) a1 b0
    have h0' : (a == 0) = false := by simpa using h0
    by_cases hb : 64 ≤ b
    · have hd : decide (64 ≤ b) = true := by simp [hb]
      have hm : min b.toNat 64 = 64 := by omega
      rw [hd, Bool.true_or, hm, show (2 : Int) ^ 64 = 18446744073709551616 by decide] at hk
      clear hm
      go_enter Tryd.func39, Tryd.ntmps39
      go_wp2_with (first | (go_at_call 38; refine (kmade_any _ _ _ _).mono ?_; rintro e w' ⟨rfl, rfl⟩))
      go_ret3; exact ⟨rfl, rfl⟩
    · have hd : decide (64 ≤ b) = false := by simpa using hb
      have hm : min b.toNat 64 = b.toNat := by omega
      rw [hd, Bool.false_or] at hk
      have HM := Lib.hid hm
      rw [hm] at hk
      clear hm
      go_enter Tryd.func39, Tryd.ntmps39
      go_wp2_with (first | (go_at_call 38; refine (kmade_any _ _ _ _).mono ?_; rintro e w' ⟨rfl, rfl⟩))
      go_ret3; go_tidy
      simp only [HM.out, hk]
      exact ⟨rfl, trivial⟩
theorem kshr_any (neg : Bool) (a b : Int) (s : ByteArray) (hs : s.toList = [62, 62]) (w : World) (ha : sound neg a = true) (a0 : 0 ≤ a) (a1 : a ≤ 18446744073709551615) (b0 : 0 ≤ b) (b1 : b ≤ 18446744073709551615) :
    Calls Tryd.prog 39 #[.string s, .bool neg, .int .u64 a, .int .u64 b] w fun e w' => e = .returned (.tuple #[.bool (kres (kval neg a / 2 ^ b.toNat)).1, .int .u64 (kres (kval neg a / 2 ^ b.toNat)).2.1, .int .i64 (kres (kval neg a / 2 ^ b.toNat)).2.2]) ∧ w = w' := by
  cases neg
  · have hk := shr_pos a b.toNat a0 a1
    have hc := div_cap a (by omega) (by omega) b.toNat
    have HC := Lib.hid hc
    clear hc
    go_enter Tryd.func39, Tryd.ntmps39
    go_wp2_with (first | (go_at_call 38; refine (kmade_any _ _ _ _).mono ?_; rintro e w' ⟨rfl, rfl⟩))
    go_ret3; go_tidy
    simp only [HC.out, hk]
    exact ⟨rfl, trivial⟩
  · have hp := kval_pos ha rfl
    have hk := shr_neg a b.toNat hp.1 a1
    have hc := div_cap (a - 1) (by omega) (by omega) b.toNat
    have HC := Lib.hid hc
    clear hc
    have q0 : 0 ≤ (a - 1) / 2 ^ min b.toNat 64 := Int.ediv_nonneg (by omega) (Int.le_of_lt (Int.pow_pos (by decide)))
    have q1 : (a - 1) / 2 ^ min b.toNat 64 ≤ a - 1 := Int.ediv_le_self _ (by omega)
    obtain ⟨p0, p1⟩ := hp
    go_enter Tryd.func39, Tryd.ntmps39
    go_wp2_with (first | (go_at_call 38; refine (kmade_any _ _ _ _).mono ?_; rintro e w' ⟨rfl, rfl⟩))
    go_ret3; go_tidy
    simp only [HC.out, hk]
    exact ⟨rfl, trivial⟩
end Go.Proofs.YtgjfdclmoeellaaDoor
