/- Contracts of the small functions on characters: letters and digits, of the program and of the reference. -/
import Derived.Test.YtihdjofihdgigaaDoorChecked
import Derived.Test.YtihdjofihdgigaaDoorQ
import Derived.Test.YtihdjofihdgigaaDoorPa
import Derived.Test.YtihdjofihdgigaaDoorTa
namespace Go.Proofs.YtihdjofihdgigaaDoor
open Go.RowKit
set_option linter.unusedSimpArgs false
set_option linter.unusedVariables false

theorem letter_any (r : Int) (w : World) : Calls Tryd.prog 48 #[.int .i32 r] w fun e w' => e = .returned (.bool (isLet r)) ∧ w = w' := by
  go_enter Tryd.func48, Tryd.ntmps48
  go_wp2
  all_goals (go_ret; refine ⟨ret_bool ?_, rfl⟩; first | (simp [isLet]; done) | (rw [Bool.eq_iff_iff]; simp [isLet]; omega) | (simp_all [isLet]; omega) | (rw [Bool.eq_iff_iff]; simp_all [isLet]; try omega))
theorem digit_any (r : Int) (w : World) : Calls Tryd.prog 31 #[.int .i32 r] w fun e w' => e = .returned (.bool (isDig r)) ∧ w = w' := by
  go_enter Tryd.func31, Tryd.ntmps31
  go_wp2
  all_goals (go_ret; refine ⟨ret_bool ?_, rfl⟩; first | (simp [isDig]; done) | (rw [Bool.eq_iff_iff]; simp [isDig]; omega) | (simp_all [isDig]; omega) | (rw [Bool.eq_iff_iff]; simp_all [isDig]; try omega))
theorem rletter_any (r : Int) (w : World) : Calls Tryd.prog 55 #[.int .i32 r] w fun e w' => e = .returned (.bool (isLet r)) ∧ w = w' := by
  go_enter Tryd.func55, Tryd.ntmps55
  go_wp2
  all_goals (go_ret; refine ⟨ret_bool ?_, rfl⟩; first | (simp [isLet]; done) | (rw [Bool.eq_iff_iff]; simp [isLet]; omega) | (simp_all [isLet]; omega) | (rw [Bool.eq_iff_iff]; simp_all [isLet]; try omega))
end Go.Proofs.YtihdjofihdgigaaDoor
