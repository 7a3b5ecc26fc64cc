/- The walks of the laws WordKinds, WordArith and WordShifts: each returns true for every input within the range of its types. -/
import Derived.Test.YtgjfdclmoeellaaRd
import Derived.Test.YtgjfdclmoeellaaPc
namespace Go.Proofs.Ytgjfdclmoeellaa
open Go.RowKit
set_option linter.unusedSimpArgs false
set_option linter.unusedVariables false

@[go_sem] theorem resW_zero (n : Int) : resW 0 n = n := rfl
theorem answers01 (w : World) : Calls Try.prog 18 #[] w fun e w' => e = .returned (.bool true) ∧ w = w' := by
  have h : resW (errW 2) (wrapW 2 255) = 18446744073709551615 := by decide
  have h2 : errW 2 = 0 := by decide
  have h3 : inW 3 255 = true := by decide
  go_enter Try.func18, Try.ntmps18
  go_wp2_with (first | (go_at_call 27; refine (wrapX_any _ _ _).mono ?_; rintro e w' ⟨rfl, rfl⟩) | (go_at_call 28; refine (is_any _ _ _).mono ?_; rintro e w' ⟨rfl, rfl⟩))
  go_ret; exact ⟨rfl, rfl⟩
theorem walkWordKinds (k n : Int) (h1 : -9223372036854775808 ≤ k) (h2 : k ≤ 9223372036854775807) (hn : 0 ≤ n) (hn2 : n ≤ 18446744073709551615) (w : World) :
    Calls Try.prog 4 #[.int .i64 k, .int .u64 n] w fun e w' => e = .returned (.bool true) ∧ Below w.heap.size w w' := by
  have e1 := rIs_eq k n hn hn2
  cases hk : isW k
  · have e2 : errW k = 2 := by simp [errW, hk]
    have e3 : resW (errW k) (wrapW k n) = 0 := by simp [resW, e2]
    have e4 : sgnW k = false := by simp [sgnW, hk]
    have e5 : bitsW k = 0 := by simp [isW] at hk; unfold bitsW; repeat (rw [if_neg (by omega)])
    go_enter Try.func4, Try.ntmps4
    go_wp2_with (first | (go_at_call 25; refine (bits_any _ _).mono ?_; rintro e w' ⟨rfl, rfl⟩) | (go_at_call 26; refine (signed_any _ _ h1 h2).mono ?_; rintro e w' ⟨rfl, rfl⟩) | (go_at_call 27; refine (wrapX_any _ _ _).mono ?_; rintro e w' ⟨rfl, rfl⟩) | (go_at_call 18; refine (answers01 _).mono ?_; rintro e w' ⟨rfl, rfl⟩) | (go_at_call 28; refine (is_any _ _ _).mono ?_; rintro e w' ⟨rfl, rfl⟩) | (go_at_call 20; refine (ris_any _ _ _ h1 h2 hn hn2).mono ?_; rintro e w' ⟨rfl, rfl⟩) | (go_at_call 19; refine (rwhole_any _ _).mono ?_; rintro e w' ⟨rfl, rfl⟩))
    go_ret; exact ⟨rfl, Below.refl _ _⟩
  · have e2 : errW k = 0 := by simp [errW, hk]
    have e3 : resW (errW k) (wrapW k n) = wrapW k n := by simp [resW, e2]
    have e4 := rwrap_eq k n hk hn hn2
    go_enter Try.func4, Try.ntmps4
    go_wp2_with (first | (go_at_call 25; refine (bits_any _ _).mono ?_; rintro e w' ⟨rfl, rfl⟩) | (go_at_call 26; refine (signed_any _ _ h1 h2).mono ?_; rintro e w' ⟨rfl, rfl⟩) | (go_at_call 27; refine (wrapX_any _ _ _).mono ?_; rintro e w' ⟨rfl, rfl⟩) | (go_at_call 18; refine (answers01 _).mono ?_; rintro e w' ⟨rfl, rfl⟩) | (go_at_call 28; refine (is_any _ _ _).mono ?_; rintro e w' ⟨rfl, rfl⟩) | (go_at_call 20; refine (ris_any _ _ _ h1 h2 hn hn2).mono ?_; rintro e w' ⟨rfl, rfl⟩) | (go_at_call 19; refine (rwhole_any _ _).mono ?_; rintro e w' ⟨rfl, rfl⟩) | (go_at_call 24; refine (rbits_any _ _).mono ?_; rintro e w' ⟨rfl, rfl⟩) | (go_at_call 29; refine (rsigned_any _ _ h1 h2).mono ?_; rintro e w' ⟨rfl, rfl⟩) | (go_at_call 21; refine (rwrap_any _ _ _ h1 h2 hn hn2).mono ?_; rintro e w' ⟨rfl, rfl⟩))
    go_ret; exact ⟨rfl, Below.refl _ _⟩
theorem walkWordArith (k : Int) (s : ByteArray) (a b : Int) (h1 : -9223372036854775808 ≤ k) (h2 : k ≤ 9223372036854775807) (hs : s.size ≤ maxLen) (ha : 0 ≤ a) (ha2 : a ≤ 18446744073709551615) (hb : 0 ≤ b) (hb2 : b ≤ 18446744073709551615) (w : World) :
    Calls Try.prog 6 #[.int .i64 k, .string s, .int .u64 a, .int .u64 b] w fun e w' => e = .returned (.bool true) ∧ Below w.heap.size w w' := by
  have e1 := arithErr_eq k a b (opCode s) ha ha2 hb hb2
  have e2 := arithW_eq k a b (opCode s) ha ha2 hb hb2
  clear hs
  go_enter Try.func6, Try.ntmps6
  go_wp2_with (first | (go_at_call 32; refine (arith_any k a b s _ h1 h2 ha ha2 hb hb2).mono ?_; rintro e w1 ⟨rfl, hw1⟩) | (go_at_call 33; refine (rarith_any k a b s _ h1 h2 ha ha2 hb hb2).mono ?_; rintro e w2 ⟨rfl, hw2⟩) | (go_at_call 18; refine (answers01 _).mono ?_; rintro e w' ⟨rfl, rfl⟩))
  go_ret; exact ⟨rfl, below_two ‹_› ‹_›⟩
theorem walkWordShifts (k : Int) (s : ByteArray) (a b n : Int) (h1 : -9223372036854775808 ≤ k) (h2 : k ≤ 9223372036854775807) (hs : s.size ≤ maxLen) (ha : 0 ≤ a) (ha2 : a ≤ 18446744073709551615) (h3 : -9223372036854775808 ≤ b) (h4 : b ≤ 9223372036854775807) (hn : 0 ≤ n) (hn2 : n ≤ 18446744073709551615) (w : World) :
    Calls Try.prog 5 #[.int .i64 k, .string s, .int .u64 a, .int .i64 b, .int .u64 n] w fun e w' => e = .returned (.bool true) ∧ Below w.heap.size w w' := by
  have e1 := shiftErr_eq k a b n (opCode s) ha ha2 hn hn2
  have e2 := shiftW_eq k a b n (opCode s) ha ha2 hn hn2
  clear hs
  go_enter Try.func5, Try.ntmps5
  go_wp2_with (first | (go_at_call 30; refine (shift_any k a b n s _ h1 h2 h3 h4 ha ha2 hn hn2).mono ?_; rintro e w' ⟨rfl, rfl⟩) | (go_at_call 31; refine (rshift_any k a b n s _ h1 h2 h3 h4 ha ha2 hn hn2).mono ?_; rintro e w2 ⟨rfl, hw2⟩) | (go_at_call 18; refine (answers01 _).mono ?_; rintro e w' ⟨rfl, rfl⟩))
  go_ret; exact ⟨rfl, ‹_›⟩
end Go.Proofs.Ytgjfdclmoeellaa
