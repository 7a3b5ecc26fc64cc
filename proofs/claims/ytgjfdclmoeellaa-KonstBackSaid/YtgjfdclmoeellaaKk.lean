/- The walks of the laws KonstFolds and KonstOnes: each returns true for every input within the range of its types. -/
import Derived.Test.YtgjfdclmoeellaaCb
import Derived.Test.YtgjfdclmoeellaaCt
import Derived.Test.YtgjfdclmoeellaaCw
import Derived.Test.YtgjfdclmoeellaaKa
namespace Go.Proofs.Ytgjfdclmoeellaa
open Go.RowKit
set_option linter.unusedSimpArgs false
set_option linter.unusedVariables false

theorem answers07 (w : World) : Calls Try.prog 36 #[] w fun e w' => e = .returned (.bool true) ∧ w = w' := by
  have ho : opCode ⟨#[45]⟩ = 2 := by simp [opCode]
  have h : kFold 2 false 2 false 5 = (true, 3, 0) := by decide
  go_enter Try.func36, Try.ntmps36
  go_wp2_with (first | (go_at_call 34; refine (kfold_any _ _ _ _ _ _ (by decide) (by decide) (by decide) (by decide)).mono ?_; rintro e w' ⟨rfl, rfl⟩))
  go_ret; exact ⟨rfl, rfl⟩
set_option maxHeartbeats 1000000 in
theorem walkKonstFolds (s : ByteArray) (xn : Bool) (x : Int) (yn : Bool) (y : Int) (hs : s.size ≤ maxLen) (x0 : 0 ≤ x) (x1 : x ≤ 18446744073709551615) (y0 : 0 ≤ y) (y1 : y ≤ 18446744073709551615) (w : World) :
    Calls Try.prog 9 #[.string s, .agg #[.bool xn, .int .u64 x], .agg #[.bool yn, .int .u64 y]] w fun e w' => e = .returned (.bool true) ∧ Below w.heap.size w w' := by
  clear hs
  go_enter Try.func9, Try.ntmps9
  go_wp2_with (first | (go_at_call 34; refine (kfold_any _ _ _ _ _ _ x0 x1 y0 y1).mono ?_; rintro e w' ⟨rfl, rfl⟩) | (go_at_call 36; refine (answers07 _).mono ?_; rintro e w' ⟨rfl, rfl⟩))
  refine (rfold_any _ _ _ _ _ _ x0 x1 y0 y1).mono ?_
  rintro e w1 ⟨rfl, hw1⟩
  obtain ⟨hc1, hf1⟩ := bcell hw1
  have hz1 : w.heap.size + 1 < w1.heap.size := by have := hw1.size; simp at this; omega
  have hx1 : w.heap.size < w1.heap.size := by omega
  go_wp2_with (first | (go_at_call 36; refine (answers07 _).mono ?_; rintro e w' ⟨rfl, rfl⟩))
  go_ret; exact ⟨rfl, (by repeat' (first | with_reducible assumption | with_reducible exact Below.refl _ _ | with_reducible refine Below.setCell ?_ ?_ _ | with_reducible refine Below.alloc ?_ ?_ _ | with_reducible refine Below.drew ?_ | with_reducible refine below_dn ?_ _ | refine below_two ?_ (by assumption) | omega | (simp; omega) | (simp; done)))⟩
set_option maxHeartbeats 1000000 in
theorem walkKonstOnes (s : ByteArray) (xn : Bool) (x : Int) (yn : Bool) (y : Int) (hs : s.size ≤ maxLen) (x0 : 0 ≤ x) (x1 : x ≤ 18446744073709551615) (y0 : 0 ≤ y) (y1 : y ≤ 18446744073709551615) (w : World) :
    Calls Try.prog 15 #[.string s, .agg #[.bool xn, .int .u64 x], .agg #[.bool yn, .int .u64 y]] w fun e w' => e = .returned (.bool true) ∧ Below w.heap.size w w' := by
  clear hs
  go_enter Try.func15, Try.ntmps15
  go_wp2_with (first | (go_at_call 39; refine (kunary_any _ _ _ _ x0 x1).mono ?_; rintro e w' ⟨rfl, rfl⟩))
  refine (runary_any _ _ _ _ x0 x1).mono ?_
  rintro e w1 ⟨rfl, hw1⟩
  obtain ⟨hc1, hf1⟩ := bcell hw1
  have hz1 : w.heap.size + 1 < w1.heap.size := by have := hw1.size; simp at this; omega
  have hx1 : w.heap.size < w1.heap.size := by omega
  go_wp2_with (first | (go_at_call 40; refine (kcompare_any _ _ _ _ _ _ x0 x1 y0 y1).mono ?_; rintro e w' ⟨rfl, rfl⟩))
  refine (rcompare_any _ _ _ _ _ _ x0 x1 y0 y1).mono ?_
  rintro e w2 ⟨rfl, hw2⟩
  obtain ⟨hc2, hf2⟩ := bcell hw2
  have hz2 : w1.heap.size < w2.heap.size := by have := hw2.size; simp at this; omega
  have hx2 : w.heap.size < w2.heap.size := by omega
  go_wp2_with (first | (go_at_call 36; refine (answers07 _).mono ?_; rintro e w' ⟨rfl, rfl⟩))
  go_ret; exact ⟨rfl, (by repeat' (first | with_reducible assumption | with_reducible exact Below.refl _ _ | with_reducible refine Below.setCell ?_ ?_ _ | with_reducible refine Below.alloc ?_ ?_ _ | with_reducible refine Below.drew ?_ | with_reducible refine below_dn ?_ _ | refine below_two ?_ (by assumption) | omega | (simp; omega) | (simp; done)))⟩
end Go.Proofs.Ytgjfdclmoeellaa
