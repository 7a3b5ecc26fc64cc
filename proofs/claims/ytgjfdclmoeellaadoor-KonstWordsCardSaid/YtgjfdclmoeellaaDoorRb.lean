/- Contracts of In and bitwise of the reference of the word layer, for every kind of the six and every operator on bits. -/
import Derived.Test.YtgjfdclmoeellaaDoorRa
import Derived.Test.YtgjfdclmoeellaaDoorQ
namespace Go.Proofs.YtgjfdclmoeellaaDoor
open Go.RowKit
set_option linter.unusedSimpArgs false
set_option linter.unusedVariables false

theorem rin_any (k m : Int) (neg : Bool) (w : World) (h1 : -9223372036854775808 ≤ k) (h2 : k ≤ 9223372036854775807) (hk : isW k = true) (hm : 0 ≤ m) (hm2 : m ≤ 18446744073709551615) : Calls Tryd.prog 18 #[.int .i64 k, .agg #[.bool neg, .int .u64 m]] w fun e w' => e = .returned (.bool (rIn k neg m)) ∧ Below w.heap.size w w' := by
  have hb : topW k = 128 ∨ topW k = 2147483648 ∨ topW k = 9223372036854775808 := by
    rcases bits_cases hk with hb | hb | hb <;> simp [topW, hb]
  rcases hb with hb | hb | hb
  all_goals
    cases hg : sgnW k <;> cases neg
    all_goals
      go_enter Tryd.func18, Tryd.ntmps18
      go_wp2_with (first | (go_at_call 27; refine (rsigned_any _ _ h1 h2).mono ?_; rintro e w' ⟨rfl, rfl⟩))
      go_quiet (first | (go_at_call 27; exact quiet_eq (rsigned_any _ _ h1 h2)) | (go_at_call 30; exact quiet_eq (rtop_any _ _ hk)))
      go_wp2
      go_ret
      exact ⟨ret_bool (by (simp [rIn, hb, hg]; try omega)), by first | exact below_dn ((Below.refl _ _).alloc (Nat.le_refl _) _) _ | exact (Below.refl _ _).alloc (Nat.le_refl _) _⟩

end Go.Proofs.YtgjfdclmoeellaaDoor
