/- Contracts of the functions of package word that Arith needs: what each returns for every input within the range of its types, and that it leaves memory as it was. -/
import Derived.Test.YtgjfdclmoeellaaDoorChecked
import Derived.Test.YtgjfdclmoeellaaDoorPa
import Derived.Test.YtgjfdclmoeellaaDoorQ
namespace Go.Proofs.YtgjfdclmoeellaaDoor
open Go.RowKit
set_option linter.unusedSimpArgs false
set_option linter.unusedVariables false

theorem whole_any (k : Int) (w : World) : Calls Tryd.prog 31 #[.int .i64 k] w fun e w' => e = .returned (.bool (isW k)) ∧ w = w' := by
  go_enter Tryd.func31, Tryd.ntmps31
  go_wp2
  all_goals (go_ret; refine ⟨ret_bool ?_, rfl⟩; simp [isW]; omega)

theorem wrap_any (k n : Int) (w : World) : Calls Tryd.prog 35 #[.int .i64 k, .int .u64 n] w fun e w' => e = .returned (.int .u64 (wrapW k n)) ∧ w = w' := by
  go_enter Tryd.func35, Tryd.ntmps35
  go_wp2
  all_goals (go_ret; go_tidy; refine ⟨ret_u64 ?_, rfl⟩; simp_all [wrapW, wrap32, IntKind.wrap, IntKind.bits, IntKind.signed])
  split <;> omega

theorem signed_any (k : Int) (w : World) (h1 : -9223372036854775808 ≤ k) (h2 : k ≤ 9223372036854775807): Calls Tryd.prog 21 #[.int .i64 k] w fun e w' => e = .returned (.tuple #[.bool (sgnW k), .int .i64 (errW k)]) ∧ w = w' := by
  by_cases hk : 2 ≤ k ∧ k ≤ 7
  · have hw : isW k = true := by simp [isW]; omega
    obtain ⟨hk1, hk2⟩ := hk
    go_enter Tryd.func21, Tryd.ntmps21
    go_wp2_with (go_at_call 31; refine (whole_any _ _).mono ?_; rintro e w' ⟨rfl, rfl⟩)
    all_goals (go_ret2; go_tidy; refine ⟨ret_two (v_bool ?_) (v_int ?_), rfl⟩)
    · simp [sgnW, hw]; rfl
    · simp [errW, hw]
  · have hw : isW k = false := by simp [isW]; omega
    clear hk
    go_enter Tryd.func21, Tryd.ntmps21
    go_wp2_with (go_at_call 31; refine (whole_any _ _).mono ?_; rintro e w' ⟨rfl, rfl⟩)
    all_goals (go_ret2; go_tidy; refine ⟨ret_two (v_bool ?_) (v_int ?_), rfl⟩)
    · simp [sgnW, hw]
    · simp [errW, hw]

theorem is_any (k n : Int) (w : World) : Calls Tryd.prog 26 #[.int .i64 k, .int .u64 n] w fun e w' => e = .returned (.bool (inW k n)) ∧ w = w' := by
  go_enter Tryd.func26, Tryd.ntmps26
  go_wp2_with (first | (go_at_call 31; refine (whole_any _ _).mono ?_; rintro e w' ⟨rfl, rfl⟩) | (go_at_call 35; refine (wrap_any _ _ _).mono ?_; rintro e w' ⟨rfl, rfl⟩))
  all_goals (go_ret; go_tidy; refine ⟨ret_bool ?_, rfl⟩; simp_all [inW])

theorem check0 (k : Int) (w : World) : Calls Tryd.prog 20 #[.int .i64 k, .slice none 0 0] w fun e w' => e = .returned (.int .i64 (checkW k [])) ∧ w = w' := by
  go_enter Tryd.func20, Tryd.ntmps20
  go_wp2_with (first | (go_at_call 31; refine (whole_any _ _).mono ?_; rintro e w' ⟨rfl, rfl⟩))
  · go_ret; go_tidy; refine ⟨ret_u64 ?_, rfl⟩; simp_all [checkW]
  · refine wp_loop_rounds 1 ?_
    rw [rounds_succ]
    go_wp2
    go_ret; go_tidy; refine ⟨ret_u64 ?_, rfl⟩; simp_all [checkW]
theorem check1 (k x : Int) (b o c : Nat) (w : World) (h : w.cell? ⟨b, o, none⟩ = some (.int .u64 x)) : Calls Tryd.prog 20 #[.int .i64 k, .slice (some ⟨b, o, none⟩) 1 c] w fun e w' => e = .returned (.int .i64 (checkW k [x])) ∧ w = w' := by
  go_enter Tryd.func20, Tryd.ntmps20
  go_wp2_with (first | (go_at_call 31; refine (whole_any _ _).mono ?_; rintro e w' ⟨rfl, rfl⟩))
  · go_ret; go_tidy; refine ⟨ret_u64 ?_, rfl⟩; simp_all [checkW]
  · refine wp_loop_rounds 2 ?_
    rw [rounds_succ]
    go_wp2_with (first | (go_at_call 26; refine (is_any _ _ _).mono ?_; rintro e w' ⟨rfl, rfl⟩))
    · go_ret; go_tidy; refine ⟨ret_u64 ?_, rfl⟩; simp_all [checkW]
    · rw [rounds_succ]
      go_wp2
      go_ret; go_tidy; refine ⟨ret_u64 ?_, rfl⟩; simp_all [checkW]
theorem check2 (k x y : Int) (b o c : Nat) (w : World) (h : w.cell? ⟨b, o, none⟩ = some (.int .u64 x)) (h' : w.cell? ⟨b, o + 1, none⟩ = some (.int .u64 y)) : Calls Tryd.prog 20 #[.int .i64 k, .slice (some ⟨b, o, none⟩) 2 c] w fun e w' => e = .returned (.int .i64 (checkW k [x, y])) ∧ w = w' := by
  go_enter Tryd.func20, Tryd.ntmps20
  go_wp2_with (first | (go_at_call 31; refine (whole_any _ _).mono ?_; rintro e w' ⟨rfl, rfl⟩))
  · go_ret; go_tidy; refine ⟨ret_u64 ?_, rfl⟩; simp_all [checkW]
  · refine wp_loop_rounds 3 ?_
    rw [rounds_succ]
    go_wp2_with (first | (go_at_call 26; refine (is_any _ _ _).mono ?_; rintro e w' ⟨rfl, rfl⟩))
    · go_ret; go_tidy; refine ⟨ret_u64 ?_, rfl⟩; simp_all [checkW]
    · rw [rounds_succ]
      go_wp2_with (first | (go_at_call 26; refine (is_any _ _ _).mono ?_; rintro e w' ⟨rfl, rfl⟩))
      · go_ret; go_tidy; refine ⟨ret_u64 ?_, rfl⟩; simp_all [checkW]
      · rw [rounds_succ]
        go_wp2
        go_ret; go_tidy; refine ⟨ret_u64 ?_, rfl⟩; simp_all [checkW]
theorem wrapX_any (k n : Int) (w : World) : Calls Tryd.prog 25 #[.int .i64 k, .int .u64 n] w fun e w' => e = .returned (.tuple #[.int .u64 (resW (errW k) (wrapW k n)), .int .i64 (errW k)]) ∧ w = w' := by
  cases hw : isW k
  · have hc : (checkW k [] != 0) = true := by simp [checkW, hw]
    have hc2 : checkW k [] = errW k := by simp [checkW, errW, hw]
    have H := Lib.hid hc2
    clear hc2
    go_enter Tryd.func25, Tryd.ntmps25
    go_wp2_with (first | (go_at_call 20; refine (check0 _ _).mono ?_; rintro e w' ⟨rfl, rfl⟩) | (go_at_call 35; refine (wrap_any _ _ _).mono ?_; rintro e w' ⟨rfl, rfl⟩))
    go_ret2; go_tidy; refine ⟨ret_two (v_int ?_) (v_int ?_), rfl⟩
    · simp [resW, errW, hw]
    · exact H.out
  · have hc : (checkW k [] != 0) = false := by simp [checkW, hw]
    go_enter Tryd.func25, Tryd.ntmps25
    go_wp2_with (first | (go_at_call 20; refine (check0 _ _).mono ?_; rintro e w' ⟨rfl, rfl⟩) | (go_at_call 35; refine (wrap_any _ _ _).mono ?_; rintro e w' ⟨rfl, rfl⟩))
    go_ret2; go_tidy; refine ⟨ret_two (v_int ?_) (v_int ?_), rfl⟩
    · simp [resW, errW, hw]
    · simp [errW, hw]
end Go.Proofs.YtgjfdclmoeellaaDoor
