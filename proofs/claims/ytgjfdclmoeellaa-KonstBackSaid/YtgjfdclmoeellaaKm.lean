/- The walk of the law KonstBack: it returns true for every input within the range of its types. -/
import Derived.Test.YtgjfdclmoeellaaCx
import Derived.Test.YtgjfdclmoeellaaKk
namespace Go.Proofs.Ytgjfdclmoeellaa
open Go.RowKit
set_option linter.unusedSimpArgs false
set_option linter.unusedVariables false

set_option maxHeartbeats 1000000 in
theorem walkKonstBack (k o n : Int) (h1 : -9223372036854775808 ≤ k) (h2 : k ≤ 9223372036854775807) (h3 : -9223372036854775808 ≤ o) (h4 : o ≤ 9223372036854775807) (n0 : 0 ≤ n) (n1 : n ≤ 18446744073709551615) (w : World) :
    Calls Try.prog 16 #[.int .i64 k, .int .i64 o, .int .u64 n] w fun e w' => e = .returned (.bool true) ∧ Below w.heap.size w w' := by
  have er := rIs_eq k n n0 n1
  cases hi : inW k n
  · have hc : (checkW k [n] != 0) = true := by
      rw [bne_iff_ne]; intro h; rw [checkW1.1 h] at hi; exact absurd hi (by decide)
    go_enter Try.func16, Try.ntmps16
    go_wp2_with (first | (go_at_call 43; refine (kof_any _ _ _ h1 h2 n0 n1).mono ?_; rintro e w' ⟨rfl, rfl⟩) | (go_at_call 36; refine (answers07 _).mono ?_; rintro e w' ⟨rfl, rfl⟩) | (go_at_call 20; refine (ris_any _ _ _ h1 h2 n0 n1).mono ?_; rintro e w' ⟨rfl, rfl⟩))
    go_ret; exact ⟨rfl, Below.refl _ _⟩
  · have hc : checkW k [n] = 0 := checkW1.2 hi
    obtain ⟨e1, e2, e3⟩ := kback k o n hi n0 n1
    obtain ⟨b0, b1⟩ := ofN_bd k n n0 n1
    generalize hm : ofN k n = m at *
    generalize hg : ofNeg k n = neg at *
    by_cases hf : kFitErr o neg m = 0
    · obtain ⟨e4, e5, e6⟩ := e3 hf
      have e7 := (inW_eq hi).1
      clear e3
      go_enter Try.func16, Try.ntmps16
      go_wp2_with (first | (go_at_call 43; refine (kof_any _ _ _ (by omega) (by omega) (by omega) (by omega)).mono ?_; rintro e w' ⟨rfl, rfl⟩) | (go_at_call 36; refine (answers07 _).mono ?_; rintro e w' ⟨rfl, rfl⟩) | (go_at_call 44; refine (kfits_any _ _ _ _ (by omega) (by omega) b0 b1).mono ?_; rintro e w' ⟨rfl, rfl⟩))
      go_ret; exact ⟨rfl, Below.refl _ _⟩
    · have hn : (kFitErr o neg m != 0) = true := by simp [hf]
      have r0 : resW (kFitErr o neg m) n = 0 := by simp [resW, hf]
      have e7 := (inW_eq hi).1
      have bo := ofN_bd o 0 (by omega) (by omega)
      clear e3 hf
      go_enter Try.func16, Try.ntmps16
      go_wp2_with (first | (go_at_call 43; refine (kof_any _ _ _ (by omega) (by omega) (by omega) (by omega)).mono ?_; rintro e w' ⟨rfl, rfl⟩) | (go_at_call 36; refine (answers07 _).mono ?_; rintro e w' ⟨rfl, rfl⟩) | (go_at_call 44; refine (kfits_any _ _ _ _ (by omega) (by omega) b0 b1).mono ?_; rintro e w' ⟨rfl, rfl⟩))
      go_ret; exact ⟨rfl, Below.refl _ _⟩
end Go.Proofs.Ytgjfdclmoeellaa
