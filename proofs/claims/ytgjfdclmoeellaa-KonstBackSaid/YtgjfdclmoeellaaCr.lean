/- Contracts of the reference of constants (mullionref01: Const, told, sum): what each returns for every input within the range of its types. -/
import Derived.Test.YtgjfdclmoeellaaPk
import Derived.Test.YtgjfdclmoeellaaRc
namespace Go.Proofs.Ytgjfdclmoeellaa
open Go.RowKit
set_option linter.unusedSimpArgs false
set_option linter.unusedVariables false

theorem rconst_any (neg : Bool) (n : Int) (w : World) : Calls Try.prog 37 #[.agg #[.bool neg, .int .u64 n]] w fun e w' => e = .returned (.bool (sound neg n)) ∧ Below w.heap.size w w' := by
  cases neg
  · go_enter Try.func37, Try.ntmps37
    go_wp2
    go_ret; exact ⟨ret_bool (by simp [sound]), by go_grown⟩
  · by_cases h : 0 < n
    · go_enter Try.func37, Try.ntmps37
      go_wp2
      go_ret; exact ⟨ret_bool (by simp [sound, h]), by go_grown⟩
    · go_enter Try.func37, Try.ntmps37
      go_wp2
      go_ret; exact ⟨ret_bool (by simp [sound]; omega), by go_grown⟩
theorem ret_num {a c : Bool} {b d : Int} {e f : Value} (h : a = c) (h2 : b = d) (h3 : e = f) : Ending.returned (.tuple #[.agg #[.bool a, .int .u64 b], e]) = .returned (.tuple #[.agg #[.bool c, .int .u64 d], f]) := by rw [h, h2, h3]
/-- told, where it was larger than all -/
theorem told_over (neg : Bool) (n : Int) (w : World) : Calls Try.prog 60 #[.agg #[.bool neg, .int .u64 n], .bool true] w fun e w' => e = .returned (.tuple #[.agg #[.bool (kMade neg n true).1, .int .u64 (kMade neg n true).2.1], .int .i64 (kMade neg n true).2.2]) ∧ Below w.heap.size w w' := by
  cases neg
  · go_enter Try.func60, Try.ntmps60
    go_wp2
    go_returns
    exact ⟨ret_num (by simp [kMade]) (by simp [kMade]) (v_int (by simp [kMade])), (by repeat' (first | with_reducible assumption | with_reducible exact Below.refl _ _ | with_reducible refine Below.setCell ?_ ?_ _ | with_reducible refine Below.alloc ?_ ?_ _ | with_reducible refine Below.drew ?_ | with_reducible refine below_dn ?_ _ | refine below_two ?_ (by assumption) | omega | (simp; omega) | (simp; done)))⟩
  · by_cases h : 0 < n
    all_goals
      go_enter Try.func60, Try.ntmps60
      go_wp2
      go_returns
      exact ⟨ret_num (by simp [kMade]) (by simp [kMade]) (v_int (by simp [kMade])), (by repeat' (first | with_reducible assumption | with_reducible exact Below.refl _ _ | with_reducible refine Below.setCell ?_ ?_ _ | with_reducible refine Below.alloc ?_ ?_ _ | with_reducible refine Below.drew ?_ | with_reducible refine below_dn ?_ _ | refine below_two ?_ (by assumption) | omega | (simp; omega) | (simp; done)))⟩
/-- told, of a number's sign and size as they are kept -/
theorem told_at (neg : Bool) (n : Int) (w : World) (hn : neg = true → 0 < n) : Calls Try.prog 60 #[.agg #[.bool neg, .int .u64 n], .bool false] w fun e w' => e = .returned (.tuple #[.agg #[.bool (kMade neg n false).1, .int .u64 (kMade neg n false).2.1], .int .i64 (kMade neg n false).2.2]) ∧ Below w.heap.size w w' := by
  cases neg
  · have hs : sound false n = true := by simp [sound]
    clear hn
    go_enter Try.func60, Try.ntmps60
    go_wp2_with fail
    refine (rconst_any _ _ _).mono ?_
    rintro e w1 ⟨rfl, hw1⟩
    obtain ⟨hc1, hf1⟩ := bcell hw1
    have hz1 : w.heap.size + 1 < w1.heap.size := by have := hw1.size; simp at this; omega
    go_wp2
    (try simp only [Exit.inBlock, Exit.then]); refine bodyPost_ret (by (simp [results, Try.results60, go_sem, hc1, hf1, hz1]; try rfl)) rfl ?_
    exact ⟨ret_num (by simp [kMade, hs]) (by simp [kMade, hs]) (v_int (by simp [kMade, hs])), (by repeat' (first | with_reducible assumption | with_reducible exact Below.refl _ _ | with_reducible refine Below.setCell ?_ ?_ _ | with_reducible refine Below.alloc ?_ ?_ _ | with_reducible refine Below.drew ?_ | with_reducible refine below_dn ?_ _ | refine below_two ?_ (by assumption) | omega | (simp; omega) | (simp; done)))⟩
  · have h := hn rfl
    clear hn
    cases hs : sound true n
    all_goals
      go_enter Try.func60, Try.ntmps60
      go_wp2_with fail
      refine (rconst_any _ _ _).mono ?_
      rintro e w1 ⟨rfl, hw1⟩
      obtain ⟨hc1, hf1⟩ := bcell hw1
      have hz1 : w.heap.size + 1 < w1.heap.size := by have := hw1.size; simp at this; omega
      go_wp2
      (try simp only [Exit.inBlock, Exit.then]); refine bodyPost_ret (by (simp [results, Try.results60, go_sem, hc1, hf1, hz1]; try rfl)) rfl ?_
      exact ⟨ret_num (by simp [kMade, hs, h]) (by simp [kMade, hs, h]) (v_int (by simp [kMade, hs, h])), (by repeat' (first | with_reducible assumption | with_reducible exact Below.refl _ _ | with_reducible refine Below.setCell ?_ ?_ _ | with_reducible refine Below.alloc ?_ ?_ _ | with_reducible refine Below.drew ?_ | with_reducible refine below_dn ?_ _ | refine below_two ?_ (by assumption) | omega | (simp; omega) | (simp; done)))⟩
theorem told_zero (n : Int) (w : World) (hn : n ≤ 0) : Calls Try.prog 60 #[.agg #[.bool true, .int .u64 n], .bool false] w fun e w' => e = .returned (.tuple #[.agg #[.bool (kMade true n false).1, .int .u64 (kMade true n false).2.1], .int .i64 (kMade true n false).2.2]) ∧ Below w.heap.size w w' := by
  have hs : sound false n = true := by simp [sound]
  have hd : decide (0 < n) = false := by simp; omega
  go_enter Try.func60, Try.ntmps60
  go_wp2_with fail
  refine (rconst_any _ _ _).mono ?_
  rintro e w1 ⟨rfl, hw1⟩
  obtain ⟨hc1, hf1⟩ := bcell hw1
  have hz1 : w.heap.size + 1 < w1.heap.size := by have := hw1.size; simp at this; omega
  go_wp2
  (try simp only [Exit.inBlock, Exit.then]); refine bodyPost_ret (by (simp [results, Try.results60, go_sem, hc1, hf1, hz1]; try rfl)) rfl ?_
  have hd : decide (0 < n) = false := by simp; omega
  exact ⟨ret_num (by simp [kMade, hs, hd]) (by simp [kMade, hs, hd]) (v_int (by simp [kMade, hs, hd])), (by repeat' (first | with_reducible assumption | with_reducible exact Below.refl _ _ | with_reducible refine Below.setCell ?_ ?_ _ | with_reducible refine Below.alloc ?_ ?_ _ | with_reducible refine Below.drew ?_ | with_reducible refine below_dn ?_ _ | refine below_two ?_ (by assumption) | omega | (simp; omega) | (simp; done)))⟩
theorem told_any (neg over : Bool) (n : Int) (w : World) : Calls Try.prog 60 #[.agg #[.bool neg, .int .u64 n], .bool over] w fun e w' => e = .returned (.tuple #[.agg #[.bool (kMade neg n over).1, .int .u64 (kMade neg n over).2.1], .int .i64 (kMade neg n over).2.2]) ∧ Below w.heap.size w w' := by
  cases over
  · cases neg
    · exact told_at false n w (by simp)
    · by_cases h : 0 < n
      · exact told_at true n w (fun _ => h)
      · exact told_zero n w (by omega)
  · exact told_over neg n w
end Go.Proofs.Ytgjfdclmoeellaa
