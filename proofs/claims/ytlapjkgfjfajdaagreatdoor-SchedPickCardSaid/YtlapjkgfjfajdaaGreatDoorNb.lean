/- The walk of the law SchedPick: it returns true for every input within the range of its types. Its closed question is answered by the evaluator. -/
import Derived.Test.YtlapjkgfjfajdaaGreatDoorMz
import Derived.Test.YtlapjkgfjfajdaaGreatDoorNa
import Derived.KernelRfl
import Derived.WalkKit
import Derived.Below
namespace Go.Proofs.YtlapjkgfjfajdaaGreatDoor
open Go.RowKit
set_option linter.unusedSimpArgs false
set_option linter.unusedVariables false

theorem answers_c (w : World) : Calls Tryz.prog 5 #[] w fun e w' => e = .returned (.bool true) ∧ Below w.heap.size w w' :=
  Ev.closed (K := 4) (f := 100000) (by kernel_rfl) (by kernel_rfl) w
theorem pick_lo (q k : Int) (hq : q < 1) (w : World) : Calls Tryz.prog 4 #[.int .i64 q, .int .u16 k] w fun e w' => e = .returned (.tuple #[.int .i64 0, .int .i64 2]) ∧ w = w' := by
  have e1 : decide (q < 1) = true := by simp [hq]
  clear hq
  go_enter Tryz.func4, Tryz.ntmps4
  go_wp2
  (try simp only [Exit.inBlock, Exit.then]); refine bodyPost_ret (by (simp [results, Tryz.results4, go_sem, e1]; try rfl)) rfl ?_
  exact ⟨rfl, rfl⟩
theorem pick_hi (q k : Int) (hq : ¬ q < 1) (hk : 0 ≤ k) (hk2 : k ≤ 65535) (w : World) : Calls Tryz.prog 4 #[.int .i64 q, .int .u16 k] w fun e w' => e = .returned (.tuple #[.int .i64 (k % q), .int .i64 0]) ∧ w = w' := by
  have e1 : decide (q < 1) = false := by simp [hq]
  have e2 : q ≠ 0 := by omega
  have e3 : IntKind.i64.wrap k = k := by rw [IntKind.wrap_i64]; omega
  clear hq
  go_enter Tryz.func4, Tryz.ntmps4
  go_wp2
  (try simp only [Exit.inBlock, Exit.then]); refine bodyPost_ret (by (simp [results, Tryz.results4, go_sem, e3]; try rfl)) rfl ?_
  exact ⟨rfl, rfl⟩
theorem walkSchedPick (q k : Int) (h1 : -9223372036854775808 ≤ q) (h2 : q ≤ 9223372036854775807) (hk : 0 ≤ k) (hk2 : k ≤ 65535) (w : World) (_ : Laid w) :
    Calls Tryz.prog 3 #[.int .i64 q, .int .u16 k] w fun e w' => e = .returned (.bool true) ∧ Below w.heap.size w w' := by
  by_cases hq : q < 1
  · have e1 : decide (q < 1) = true := by simp [hq]
    go_enter Tryz.func3, Tryz.ntmps3
    go_wp2_with (first | (go_at_call 4; refine (pick_lo q k hq _).mono ?_; rintro e w' ⟨rfl, rfl⟩) | (go_at_call 5; refine (answers_c _).mono ?_; rintro e w' ⟨rfl, hb⟩))
    go_ret; exact ⟨rfl, hb⟩
  · have e1 : decide (q < 1) = false := by simp [hq]
    have e2 : q ≠ 0 := by omega
    have e3 : IntKind.i64.wrap k = k := by rw [IntKind.wrap_i64]; omega
    have e4 : (k % q == wrap64 (k - wrap64 (k / q * q))) = true := by
      have a1 : k / q * q = k - k % q := by rw [Int.mul_comm]; have := Int.mul_ediv_add_emod k q; omega
      have a2 := Int.emod_nonneg k (show q ≠ 0 by omega)
      have a3 : k % q ≤ k := by
        have := Int.ediv_nonneg hk (show 0 ≤ q by omega)
        have := Int.mul_nonneg this (show 0 ≤ q by omega)
        omega
      have a4 : wrap64 (k - k % q) = k - k % q := by unfold wrap64; omega
      have a5 : wrap64 (k - (k - k % q)) = k % q := by unfold wrap64; omega
      rw [a1, a4, a5]
      simp
    go_enter Tryz.func3, Tryz.ntmps3
    go_wp2_with (first | (go_at_call 4; refine (pick_hi q k hq hk hk2 _).mono ?_; rintro e w' ⟨rfl, rfl⟩) | (go_at_call 5; refine (answers_c _).mono ?_; rintro e w' ⟨rfl, hb⟩))
    go_ret; exact ⟨rfl, hb⟩
end Go.Proofs.YtlapjkgfjfajdaaGreatDoor
