/- Contracts that the law KonstWords needs beside those of the other texts: Const and Word of the reference, and the law's own fixed fact. -/
import Derived.Test.YtgjfdclmoeellaaDoorCb
import Derived.Test.YtgjfdclmoeellaaDoorCx
import Derived.Test.YtgjfdclmoeellaaDoorRb
import Derived.Test.YtgjfdclmoeellaaDoorKo
namespace Go.Proofs.YtgjfdclmoeellaaDoor
open Go.RowKit
set_option linter.unusedSimpArgs false
set_option linter.unusedVariables false

theorem answers07 (w : World) : Calls Tryd.prog 15 #[] w fun e w' => e = .returned (.bool true) ∧ w = w' := by
  have ho : opCode ⟨#[45]⟩ = 2 := by simp [opCode]
  have h : kFold 2 false 2 false 5 = (true, 3, 0) := by decide
  go_enter Tryd.func15, Tryd.ntmps15
  go_wp2_with (first | (go_at_call 29; refine (kfold_any _ _ _ _ _ _ (by decide) (by decide) (by decide) (by decide)).mono ?_; rintro e w' ⟨rfl, rfl⟩))
  go_ret; exact ⟨rfl, rfl⟩
theorem rconst_any (neg : Bool) (n : Int) (w : World) : Calls Tryd.prog 16 #[.agg #[.bool neg, .int .u64 n]] w fun e w' => e = .returned (.bool (sound neg n)) ∧ Below w.heap.size w w' := by
  cases neg
  · go_enter Tryd.func16, Tryd.ntmps16
    go_wp2
    go_ret; exact ⟨ret_bool (by simp [sound]), by go_grown⟩
  · by_cases h : 0 < n
    · go_enter Tryd.func16, Tryd.ntmps16
      go_wp2
      go_ret; exact ⟨ret_bool (by simp [sound, h]), by go_grown⟩
    · go_enter Tryd.func16, Tryd.ntmps16
      go_wp2
      go_ret; exact ⟨ret_bool (by simp [sound]; omega), by go_grown⟩
theorem rword_any (neg : Bool) (n : Int) (w : World) (n0 : 0 ≤ n) (n1 : n ≤ 18446744073709551615) : Calls Tryd.prog 19 #[.agg #[.bool neg, .int .u64 n]] w fun e w' => e = .returned (.int .u64 (wordOf neg n)) ∧ Below w.heap.size w w' := by
  cases neg
  all_goals
    go_enter Tryd.func19, Tryd.ntmps19
    go_wp2
    go_ret; exact ⟨ret_u64 (by simp [wordOf]), by go_grown⟩
theorem rin_fits (k x : Int) (neg : Bool) (hk : isW k = true) (hs : sound neg x = true) (x0 : 0 ≤ x) (x1 : x ≤ 18446744073709551615) : rIn k neg x = fitsK k neg x := by
  rcases isW_cases hk with rfl | rfl | rfl | rfl | rfl | rfl <;> cases neg <;> simp [fitsK, kval, loW, hiW, modW, sgnW, isW, rIn, topW, bitsW, sound] at hs ⊢ <;> (try rw [Bool.eq_iff_iff]) <;> (try simp) <;> omega
end Go.Proofs.YtgjfdclmoeellaaDoor
