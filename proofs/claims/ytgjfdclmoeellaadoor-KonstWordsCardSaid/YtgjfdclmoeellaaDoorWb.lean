/- Contracts of word.Convert, word.Less and word.Shift, for every input within the range of their types. -/
import Derived.Test.YtgjfdclmoeellaaDoorWa
namespace Go.Proofs.YtgjfdclmoeellaaDoor
open Go.RowKit
set_option linter.unusedSimpArgs false
set_option linter.unusedVariables false

theorem less_any (k a b : Int) (w : World) (h1 : -9223372036854775808 ≤ k) (h2 : k ≤ 9223372036854775807) : Calls Tryd.prog 5 #[.int .i64 k, .int .u64 a, .int .u64 b] w fun e w' => e = .returned (.tuple #[.bool (lessW k a b), .int .i64 (checkW k [a, b])]) ∧ Below w.heap.size w w' := by
  by_cases he : checkW k [a, b] = 0
  · cases hg : sgnW k
    all_goals
      go_enter Tryd.func5, Tryd.ntmps5
      go_wp2_with (first | (go_at_call 20; refine (check2 _ a b _ _ _ _ (by simp) (by simp)).mono ?_; rintro e w' ⟨rfl, rfl⟩) | (go_at_call 21; refine (signed_any _ _ h1 h2).mono ?_; rintro e w' ⟨rfl, rfl⟩))
      go_ret2; go_tidy; refine ⟨ret_two (v_bool ?_) (v_int ?_), (Below.refl _ _).alloc (Nat.le_refl _) _⟩ <;> simp [lessW, he, sval, hg]
  · have hn : (checkW k [a, b] != 0) = true := by simp [he]
    go_enter Tryd.func5, Tryd.ntmps5
    go_wp2_with (first | (go_at_call 20; refine (check2 _ a b _ _ _ _ (by simp) (by simp)).mono ?_; rintro e w' ⟨rfl, rfl⟩) | (go_at_call 21; refine (signed_any _ _ h1 h2).mono ?_; rintro e w' ⟨rfl, rfl⟩))
    go_ret2; go_tidy; refine ⟨ret_two (v_bool ?_) (v_int ?_), (Below.refl _ _).alloc (Nat.le_refl _) _⟩ <;> simp [lessW, he]

end Go.Proofs.YtgjfdclmoeellaaDoor
