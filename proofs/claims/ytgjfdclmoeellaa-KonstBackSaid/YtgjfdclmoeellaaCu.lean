/- Contracts of konst.Unary, konst.Compare and of their references, for every input within the range of their types. -/
import Derived.Test.YtgjfdclmoeellaaCa
import Derived.Test.YtgjfdclmoeellaaCs
namespace Go.Proofs.Ytgjfdclmoeellaa
open Go.RowKit
set_option linter.unusedSimpArgs false
set_option linter.unusedVariables false

theorem kunary_any (an : Bool) (a : Int) (s : ByteArray) (w : World) (a0 : 0 ≤ a) (a1 : a ≤ 18446744073709551615) :
    Calls Try.prog 39 #[.string s, .bool an, .int .u64 a] w fun e w' => e = .returned (.tuple #[.bool (kUnary (opCode s) an a).1, .int .u64 (kUnary (opCode s) an a).2.1, .int .i64 (kUnary (opCode s) an a).2.2]) ∧ w = w' := by
  by_cases h1 : s.toList = [45]
  · have ho : opCode s = 2 := by simp [opCode, h1]
    have hk : kMade (!an) a false = kres (-(kval an a)) := kMade_eq _ _ _ a0 a1 (by unfold kval; cases an <;> simp)
    cases hx : sound an a
    · go_enter Try.func39, Try.ntmps39
      go_wp2_with (first | (go_at_call 54; refine (ksound_any _ _ _).mono ?_; rintro e w' ⟨rfl, rfl⟩))
      go_ret3; go_tidy; refine ⟨ret_three (v_bool ?_) (v_int ?_) (v_int ?_), rfl⟩ <;> simp [kUnary, ho, hx]
    · go_enter Try.func39, Try.ntmps39
      go_wp2_with (first | (go_at_call 54; refine (ksound_any _ _ _).mono ?_; rintro e w' ⟨rfl, rfl⟩) | (go_at_call 57; refine (kmade_any _ _ _ _).mono ?_; rintro e w' ⟨rfl, rfl⟩))
      go_ret3; go_tidy; refine ⟨ret_three (v_bool ?_) (v_int ?_) (v_int ?_), rfl⟩ <;> simp [kUnary, ho, hx]
  by_cases h2 : s.toList = [94]
  · have ho : opCode s = 8 := by simp [opCode, h2]
    have hk : kval (!an) a + kval true 1 = -(kval an a) - 1 := by unfold kval; cases an <;> simp <;> omega
    clear h1
    cases hx : sound an a
    · go_enter Try.func39, Try.ntmps39
      go_wp2_with (first | (go_at_call 54; refine (ksound_any _ _ _).mono ?_; rintro e w' ⟨rfl, rfl⟩))
      go_ret3; go_tidy; refine ⟨ret_three (v_bool ?_) (v_int ?_) (v_int ?_), rfl⟩ <;> simp [kUnary, ho, hx]
    · go_enter Try.func39, Try.ntmps39
      go_wp2_with (first | (go_at_call 54; refine (ksound_any _ _ _).mono ?_; rintro e w' ⟨rfl, rfl⟩) | (go_at_call 55; refine (kadd_any _ _ _ _ _ a0 a1 (by decide) (by decide)).mono ?_; rintro e w' ⟨rfl, rfl⟩))
      go_ret3; go_tidy; refine ⟨ret_three (v_bool ?_) (v_int ?_) (v_int ?_), rfl⟩ <;> simp [kUnary, ho, hx]
  have n1 : (s.toList != [45]) = true := by simp [h1]
  have n2 : (s.toList != [94]) = true := by simp [h2]
  have n3 : (s.toList == [45]) = false := by simp [h1]
  have n4 : (s.toList == [94]) = false := by simp [h2]
  have ho : ¬ (opCode s = 2 ∨ opCode s = 8) := by
    unfold opCode; (repeat' split) <;> simp_all
  have HO := Lib.hid ho
  clear h1 h2 ho
  go_enter Try.func39, Try.ntmps39
  go_wp2_with fail
  go_ret3; go_tidy; refine ⟨ret_three (v_bool ?_) (v_int ?_) (v_int ?_), rfl⟩ <;> (unfold kUnary; rw [if_pos HO.out])
theorem klt (an bn : Bool) (a b : Int) (ha : sound an a = true) (hb : sound bn b = true) (a0 : 0 ≤ a) (b0 : 0 ≤ b) : (if an != bn then an else (a != b && (decide (a < b) != an))) = decide (kval an a < kval bn b) := by
  have h1 := kval_pos ha
  have h2 := kval_pos hb
  unfold kval
  cases an <;> cases bn <;> (rw [Bool.eq_iff_iff]; simp at h1 h2 ⊢) <;> omega
theorem kless_any (an bn : Bool) (a b : Int) (w : World) (ha : sound an a = true) (hb : sound bn b = true) (a0 : 0 ≤ a) (b0 : 0 ≤ b) :
    Calls Try.prog 62 #[.bool an, .int .u64 a, .bool bn, .int .u64 b] w fun e w' => e = .returned (.bool (decide (kval an a < kval bn b))) ∧ w = w' := by
  have hk := klt an bn a b ha hb a0 b0
  have HK := Lib.hid hk
  clear hk ha hb
  by_cases hs : an = bn
  · subst hs
    by_cases he : a = b
    · subst he
      go_enter Try.func62, Try.ntmps62
      go_wp2
      go_ret; exact ⟨ret_bool (by rw [← HK.out]; simp), rfl⟩
    · have hn : (a != b) = true := by simp [he]
      clear he
      go_enter Try.func62, Try.ntmps62
      go_wp2
      go_ret; exact ⟨ret_bool (by rw [← HK.out]; cases an <;> simp [hn]), rfl⟩
  · have hn : (an != bn) = true := by simpa using hs
    cases an <;> cases bn <;> simp at hs
    all_goals
      clear hn
      go_enter Try.func62, Try.ntmps62
      go_wp2
      go_ret; exact ⟨ret_bool (by rw [← HK.out]; simp), rfl⟩
end Go.Proofs.Ytgjfdclmoeellaa
