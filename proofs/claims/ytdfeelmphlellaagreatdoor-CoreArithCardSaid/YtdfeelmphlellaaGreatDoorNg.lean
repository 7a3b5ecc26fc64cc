/- The walk of the law CoreArith: it returns true for every input within the range of its types. For the six kinds and nine operators by the evaluator's answers on tokens, else by hand. -/
import Derived.Test.YtdfeelmphlellaaGreatDoorNe
import Derived.Test.YtdfeelmphlellaaGreatDoorRa
import Derived.WalkKit
import Derived.Below
import Derived.Test.YtdfeelmphlellaaGreatDoorNk2
import Derived.Test.YtdfeelmphlellaaGreatDoorNk3
import Derived.Test.YtdfeelmphlellaaGreatDoorNk4
import Derived.Test.YtdfeelmphlellaaGreatDoorNk5
import Derived.Test.YtdfeelmphlellaaGreatDoorNk6
import Derived.Test.YtdfeelmphlellaaGreatDoorNk7
namespace Go.Proofs.YtdfeelmphlellaaGreatDoor
open Go.RowKit
open Ev
set_option linter.unusedSimpArgs false
set_option linter.unusedVariables false

theorem err_tok (k x y : Int) (c : Nat) (hk : isW k = true) (hx : 0 ≤ x) (hx2 : x ≤ 18446744073709551615) (hy : 0 ≤ y) (hy2 : y ≤ 18446744073709551615) (hc : 1 ≤ c) (hc9 : c ≤ 9) : arithErr k c (wrapW k x) (wrapW k y) = if (c = 4 ∨ c = 5) ∧ wrapW k y = 0 then 18 else 0 := by
  have h := checkW2.2 ⟨inW_wrapW k x hk hx hx2, inW_wrapW k y hk hy hy2⟩
  unfold arithErr
  rw [if_neg (by omega), if_pos h]
theorem goA {k o : Int} {sg : List UInt8} (hE : AskA k o sg 0) (hC : AskC k k) (hk : isW k = true) (hc : 1 ≤ opCode ⟨sg.toArray⟩ ∧ opCode ⟨sg.toArray⟩ ≤ 9 ∧ opCode ⟨sg.toArray⟩ ≠ 4 ∧ opCode ⟨sg.toArray⟩ ≠ 5) (x y : Int) (hx : 0 ≤ x) (hx2 : x ≤ 18446744073709551615) (hy : 0 ≤ y) (hy2 : y ≤ 18446744073709551615) (w : World) (hL : Laid w) :
    Calls Tryz.prog 3 #[.int .i64 k, .int .i64 o, .int .u64 x, .int .u64 y] w fun e w' => e = .returned (.bool true) ∧ Below w.heap.size w w' :=
  arith_tok hE hC hk x y hx hx2 hy hy2 (by rw [err_tok k x y _ hk hx hx2 hy hy2 hc.1 hc.2.1, if_neg (by omega)]) w hL
theorem goD {k o : Int} {sg : List UInt8} (hE : AskA k o sg 0) (hZ : AskA k o sg 18) (hC : AskC k k) (hk : isW k = true) (hc : opCode ⟨sg.toArray⟩ = 4 ∨ opCode ⟨sg.toArray⟩ = 5) (x y : Int) (hx : 0 ≤ x) (hx2 : x ≤ 18446744073709551615) (hy : 0 ≤ y) (hy2 : y ≤ 18446744073709551615) (w : World) (hL : Laid w) :
    Calls Tryz.prog 3 #[.int .i64 k, .int .i64 o, .int .u64 x, .int .u64 y] w fun e w' => e = .returned (.bool true) ∧ Below w.heap.size w w' := by
  by_cases hz : wrapW k y = 0
  · exact arith_tok hZ hC hk x y hx hx2 hy hy2 (by rw [err_tok k x y _ hk hx hx2 hy hy2 (by omega) (by omega), if_pos ⟨hc, hz⟩]) w hL
  · exact arith_tok hE hC hk x y hx hx2 hy hy2 (by rw [err_tok k x y _ hk hx hx2 hy hy2 (by omega) (by omega), if_neg (fun h => hz h.2)]) w hL
theorem code_0 : 1 ≤ opCode ⟨(([43] : List UInt8)).toArray⟩ ∧ opCode ⟨(([43] : List UInt8)).toArray⟩ ≤ 9 ∧ opCode ⟨(([43] : List UInt8)).toArray⟩ ≠ 4 ∧ opCode ⟨(([43] : List UInt8)).toArray⟩ ≠ 5 := by decide +kernel
theorem code_1 : 1 ≤ opCode ⟨(([45] : List UInt8)).toArray⟩ ∧ opCode ⟨(([45] : List UInt8)).toArray⟩ ≤ 9 ∧ opCode ⟨(([45] : List UInt8)).toArray⟩ ≠ 4 ∧ opCode ⟨(([45] : List UInt8)).toArray⟩ ≠ 5 := by decide +kernel
theorem code_2 : 1 ≤ opCode ⟨(([42] : List UInt8)).toArray⟩ ∧ opCode ⟨(([42] : List UInt8)).toArray⟩ ≤ 9 ∧ opCode ⟨(([42] : List UInt8)).toArray⟩ ≠ 4 ∧ opCode ⟨(([42] : List UInt8)).toArray⟩ ≠ 5 := by decide +kernel
theorem code_3 : opCode ⟨(([47] : List UInt8)).toArray⟩ = 4 ∨ opCode ⟨(([47] : List UInt8)).toArray⟩ = 5 := by decide +kernel
theorem code_4 : opCode ⟨(([37] : List UInt8)).toArray⟩ = 4 ∨ opCode ⟨(([37] : List UInt8)).toArray⟩ = 5 := by decide +kernel
theorem code_5 : 1 ≤ opCode ⟨(([38] : List UInt8)).toArray⟩ ∧ opCode ⟨(([38] : List UInt8)).toArray⟩ ≤ 9 ∧ opCode ⟨(([38] : List UInt8)).toArray⟩ ≠ 4 ∧ opCode ⟨(([38] : List UInt8)).toArray⟩ ≠ 5 := by decide +kernel
theorem code_6 : 1 ≤ opCode ⟨(([124] : List UInt8)).toArray⟩ ∧ opCode ⟨(([124] : List UInt8)).toArray⟩ ≤ 9 ∧ opCode ⟨(([124] : List UInt8)).toArray⟩ ≠ 4 ∧ opCode ⟨(([124] : List UInt8)).toArray⟩ ≠ 5 := by decide +kernel
theorem code_7 : 1 ≤ opCode ⟨(([94] : List UInt8)).toArray⟩ ∧ opCode ⟨(([94] : List UInt8)).toArray⟩ ≤ 9 ∧ opCode ⟨(([94] : List UInt8)).toArray⟩ ≠ 4 ∧ opCode ⟨(([94] : List UInt8)).toArray⟩ ≠ 5 := by decide +kernel
theorem code_8 : 1 ≤ opCode ⟨(([38, 94] : List UInt8)).toArray⟩ ∧ opCode ⟨(([38, 94] : List UInt8)).toArray⟩ ≤ 9 ∧ opCode ⟨(([38, 94] : List UInt8)).toArray⟩ ≠ 4 ∧ opCode ⟨(([38, 94] : List UInt8)).toArray⟩ ≠ 5 := by decide +kernel
theorem kind_2 (o x y : Int) (h0 : 0 ≤ o) (h8 : o ≤ 8) (hx : 0 ≤ x) (hx2 : x ≤ 18446744073709551615) (hy : 0 ≤ y) (hy2 : y ≤ 18446744073709551615) (w : World) (hL : Laid w) :
    Calls Tryz.prog 3 #[.int .i64 2, .int .i64 o, .int .u64 x, .int .u64 y] w fun e w' => e = .returned (.bool true) ∧ Below w.heap.size w w' := by
  have hk : isW 2 = true := by decide
  rcases (show o = 0 ∨ o = 1 ∨ o = 2 ∨ o = 3 ∨ o = 4 ∨ o = 5 ∨ o = 6 ∨ o = 7 ∨ o = 8 by omega) with rfl | rfl | rfl | rfl | rfl | rfl | rfl | rfl | rfl
  · exact goA ask_2_0 check_22 hk code_0 x y hx hx2 hy hy2 w hL
  · exact goA ask_2_1 check_22 hk code_1 x y hx hx2 hy hy2 w hL
  · exact goA ask_2_2 check_22 hk code_2 x y hx hx2 hy hy2 w hL
  · exact goD ask_2_3 ask_2_3z check_22 hk code_3 x y hx hx2 hy hy2 w hL
  · exact goD ask_2_4 ask_2_4z check_22 hk code_4 x y hx hx2 hy hy2 w hL
  · exact goA ask_2_5 check_22 hk code_5 x y hx hx2 hy hy2 w hL
  · exact goA ask_2_6 check_22 hk code_6 x y hx hx2 hy hy2 w hL
  · exact goA ask_2_7 check_22 hk code_7 x y hx hx2 hy hy2 w hL
  · exact goA ask_2_8 check_22 hk code_8 x y hx hx2 hy hy2 w hL
theorem kind_3 (o x y : Int) (h0 : 0 ≤ o) (h8 : o ≤ 8) (hx : 0 ≤ x) (hx2 : x ≤ 18446744073709551615) (hy : 0 ≤ y) (hy2 : y ≤ 18446744073709551615) (w : World) (hL : Laid w) :
    Calls Tryz.prog 3 #[.int .i64 3, .int .i64 o, .int .u64 x, .int .u64 y] w fun e w' => e = .returned (.bool true) ∧ Below w.heap.size w w' := by
  have hk : isW 3 = true := by decide
  rcases (show o = 0 ∨ o = 1 ∨ o = 2 ∨ o = 3 ∨ o = 4 ∨ o = 5 ∨ o = 6 ∨ o = 7 ∨ o = 8 by omega) with rfl | rfl | rfl | rfl | rfl | rfl | rfl | rfl | rfl
  · exact goA ask_3_0 check_33 hk code_0 x y hx hx2 hy hy2 w hL
  · exact goA ask_3_1 check_33 hk code_1 x y hx hx2 hy hy2 w hL
  · exact goA ask_3_2 check_33 hk code_2 x y hx hx2 hy hy2 w hL
  · exact goD ask_3_3 ask_3_3z check_33 hk code_3 x y hx hx2 hy hy2 w hL
  · exact goD ask_3_4 ask_3_4z check_33 hk code_4 x y hx hx2 hy hy2 w hL
  · exact goA ask_3_5 check_33 hk code_5 x y hx hx2 hy hy2 w hL
  · exact goA ask_3_6 check_33 hk code_6 x y hx hx2 hy hy2 w hL
  · exact goA ask_3_7 check_33 hk code_7 x y hx hx2 hy hy2 w hL
  · exact goA ask_3_8 check_33 hk code_8 x y hx hx2 hy hy2 w hL
theorem kind_4 (o x y : Int) (h0 : 0 ≤ o) (h8 : o ≤ 8) (hx : 0 ≤ x) (hx2 : x ≤ 18446744073709551615) (hy : 0 ≤ y) (hy2 : y ≤ 18446744073709551615) (w : World) (hL : Laid w) :
    Calls Tryz.prog 3 #[.int .i64 4, .int .i64 o, .int .u64 x, .int .u64 y] w fun e w' => e = .returned (.bool true) ∧ Below w.heap.size w w' := by
  have hk : isW 4 = true := by decide
  rcases (show o = 0 ∨ o = 1 ∨ o = 2 ∨ o = 3 ∨ o = 4 ∨ o = 5 ∨ o = 6 ∨ o = 7 ∨ o = 8 by omega) with rfl | rfl | rfl | rfl | rfl | rfl | rfl | rfl | rfl
  · exact goA ask_4_0 check_44 hk code_0 x y hx hx2 hy hy2 w hL
  · exact goA ask_4_1 check_44 hk code_1 x y hx hx2 hy hy2 w hL
  · exact goA ask_4_2 check_44 hk code_2 x y hx hx2 hy hy2 w hL
  · exact goD ask_4_3 ask_4_3z check_44 hk code_3 x y hx hx2 hy hy2 w hL
  · exact goD ask_4_4 ask_4_4z check_44 hk code_4 x y hx hx2 hy hy2 w hL
  · exact goA ask_4_5 check_44 hk code_5 x y hx hx2 hy hy2 w hL
  · exact goA ask_4_6 check_44 hk code_6 x y hx hx2 hy hy2 w hL
  · exact goA ask_4_7 check_44 hk code_7 x y hx hx2 hy hy2 w hL
  · exact goA ask_4_8 check_44 hk code_8 x y hx hx2 hy hy2 w hL
theorem kind_5 (o x y : Int) (h0 : 0 ≤ o) (h8 : o ≤ 8) (hx : 0 ≤ x) (hx2 : x ≤ 18446744073709551615) (hy : 0 ≤ y) (hy2 : y ≤ 18446744073709551615) (w : World) (hL : Laid w) :
    Calls Tryz.prog 3 #[.int .i64 5, .int .i64 o, .int .u64 x, .int .u64 y] w fun e w' => e = .returned (.bool true) ∧ Below w.heap.size w w' := by
  have hk : isW 5 = true := by decide
  rcases (show o = 0 ∨ o = 1 ∨ o = 2 ∨ o = 3 ∨ o = 4 ∨ o = 5 ∨ o = 6 ∨ o = 7 ∨ o = 8 by omega) with rfl | rfl | rfl | rfl | rfl | rfl | rfl | rfl | rfl
  · exact goA ask_5_0 check_55 hk code_0 x y hx hx2 hy hy2 w hL
  · exact goA ask_5_1 check_55 hk code_1 x y hx hx2 hy hy2 w hL
  · exact goA ask_5_2 check_55 hk code_2 x y hx hx2 hy hy2 w hL
  · exact goD ask_5_3 ask_5_3z check_55 hk code_3 x y hx hx2 hy hy2 w hL
  · exact goD ask_5_4 ask_5_4z check_55 hk code_4 x y hx hx2 hy hy2 w hL
  · exact goA ask_5_5 check_55 hk code_5 x y hx hx2 hy hy2 w hL
  · exact goA ask_5_6 check_55 hk code_6 x y hx hx2 hy hy2 w hL
  · exact goA ask_5_7 check_55 hk code_7 x y hx hx2 hy hy2 w hL
  · exact goA ask_5_8 check_55 hk code_8 x y hx hx2 hy hy2 w hL
theorem kind_6 (o x y : Int) (h0 : 0 ≤ o) (h8 : o ≤ 8) (hx : 0 ≤ x) (hx2 : x ≤ 18446744073709551615) (hy : 0 ≤ y) (hy2 : y ≤ 18446744073709551615) (w : World) (hL : Laid w) :
    Calls Tryz.prog 3 #[.int .i64 6, .int .i64 o, .int .u64 x, .int .u64 y] w fun e w' => e = .returned (.bool true) ∧ Below w.heap.size w w' := by
  have hk : isW 6 = true := by decide
  rcases (show o = 0 ∨ o = 1 ∨ o = 2 ∨ o = 3 ∨ o = 4 ∨ o = 5 ∨ o = 6 ∨ o = 7 ∨ o = 8 by omega) with rfl | rfl | rfl | rfl | rfl | rfl | rfl | rfl | rfl
  · exact goA ask_6_0 check_66 hk code_0 x y hx hx2 hy hy2 w hL
  · exact goA ask_6_1 check_66 hk code_1 x y hx hx2 hy hy2 w hL
  · exact goA ask_6_2 check_66 hk code_2 x y hx hx2 hy hy2 w hL
  · exact goD ask_6_3 ask_6_3z check_66 hk code_3 x y hx hx2 hy hy2 w hL
  · exact goD ask_6_4 ask_6_4z check_66 hk code_4 x y hx hx2 hy hy2 w hL
  · exact goA ask_6_5 check_66 hk code_5 x y hx hx2 hy hy2 w hL
  · exact goA ask_6_6 check_66 hk code_6 x y hx hx2 hy hy2 w hL
  · exact goA ask_6_7 check_66 hk code_7 x y hx hx2 hy hy2 w hL
  · exact goA ask_6_8 check_66 hk code_8 x y hx hx2 hy hy2 w hL
theorem kind_7 (o x y : Int) (h0 : 0 ≤ o) (h8 : o ≤ 8) (hx : 0 ≤ x) (hx2 : x ≤ 18446744073709551615) (hy : 0 ≤ y) (hy2 : y ≤ 18446744073709551615) (w : World) (hL : Laid w) :
    Calls Tryz.prog 3 #[.int .i64 7, .int .i64 o, .int .u64 x, .int .u64 y] w fun e w' => e = .returned (.bool true) ∧ Below w.heap.size w w' := by
  have hk : isW 7 = true := by decide
  rcases (show o = 0 ∨ o = 1 ∨ o = 2 ∨ o = 3 ∨ o = 4 ∨ o = 5 ∨ o = 6 ∨ o = 7 ∨ o = 8 by omega) with rfl | rfl | rfl | rfl | rfl | rfl | rfl | rfl | rfl
  · exact goA ask_7_0 check_77 hk code_0 x y hx hx2 hy hy2 w hL
  · exact goA ask_7_1 check_77 hk code_1 x y hx hx2 hy hy2 w hL
  · exact goA ask_7_2 check_77 hk code_2 x y hx hx2 hy hy2 w hL
  · exact goD ask_7_3 ask_7_3z check_77 hk code_3 x y hx hx2 hy hy2 w hL
  · exact goD ask_7_4 ask_7_4z check_77 hk code_4 x y hx hx2 hy hy2 w hL
  · exact goA ask_7_5 check_77 hk code_5 x y hx hx2 hy hy2 w hL
  · exact goA ask_7_6 check_77 hk code_6 x y hx hx2 hy hy2 w hL
  · exact goA ask_7_7 check_77 hk code_7 x y hx hx2 hy hy2 w hL
  · exact goA ask_7_8 check_77 hk code_8 x y hx hx2 hy hy2 w hL
theorem lay_on {w w' : World} (hL : Laid w) (h : Below w.heap.size w w') : Laid w' := ⟨by
  rw [h.block _ (Array.getElem?_eq_some_iff.1 hL.ops).1]
  exact hL.ops⟩
theorem walkCoreArith (k o x y : Int) (h1 : -9223372036854775808 ≤ k) (h2 : k ≤ 9223372036854775807) (h3 : -9223372036854775808 ≤ o) (h4 : o ≤ 9223372036854775807) (hx : 0 ≤ x) (hx2 : x ≤ 18446744073709551615) (hy : 0 ≤ y) (hy2 : y ≤ 18446744073709551615) (w : World) (hL : Laid w) :
    Calls Tryz.prog 3 #[.int .i64 k, .int .i64 o, .int .u64 x, .int .u64 y] w fun e w' => e = .returned (.bool true) ∧ Below w.heap.size w w' := by
  cases hk : isW k with
  | false =>
    go_enter Tryz.func3, Tryz.ntmps3
    go_wp2_with (first | (go_at_call 5; refine (answers_c _ hL).mono ?_; rintro e w1 ⟨rfl, hb1⟩) | (go_at_call 5; refine (answers_c _ (lay_on hL hb1)).mono ?_; rintro e w2 ⟨rfl, hb2⟩) | (go_at_call 6; refine (rwhole_any _ _).mono ?_; rintro e w' ⟨rfl, rfl⟩))
    go_ret; exact ⟨rfl, below_two hb1 hb2⟩
  | true =>
    by_cases hlo : o < 0
    · have e1 : decide (o < 0) = true := by simp [hlo]
      clear hlo
      go_enter Tryz.func3, Tryz.ntmps3
      go_wp2_with (first | (go_at_call 5; refine (answers_c _ hL).mono ?_; rintro e w1 ⟨rfl, hb1⟩) | (go_at_call 5; refine (answers_c _ (lay_on hL hb1)).mono ?_; rintro e w2 ⟨rfl, hb2⟩) | (go_at_call 6; refine (rwhole_any _ _).mono ?_; rintro e w' ⟨rfl, rfl⟩))
      go_ret; exact ⟨rfl, below_two hb1 hb2⟩
    · by_cases hhi : o > 8
      · have e1 : decide (o < 0) = false := by simp [hlo]
        have e2 : decide (o > 8) = true := by simp [hhi]
        clear hlo hhi
        go_enter Tryz.func3, Tryz.ntmps3
        go_wp2_with (first | (go_at_call 5; refine (answers_c _ hL).mono ?_; rintro e w1 ⟨rfl, hb1⟩) | (go_at_call 5; refine (answers_c _ (lay_on hL hb1)).mono ?_; rintro e w2 ⟨rfl, hb2⟩) | (go_at_call 6; refine (rwhole_any _ _).mono ?_; rintro e w' ⟨rfl, rfl⟩))
        go_ret; exact ⟨rfl, below_two hb1 hb2⟩
      · have h0 : 0 ≤ o := by omega
        have h8 : o ≤ 8 := by omega
        have hkk : k = 2 ∨ k = 3 ∨ k = 4 ∨ k = 5 ∨ k = 6 ∨ k = 7 := by
          simp [isW] at hk
          omega
        rcases hkk with rfl | rfl | rfl | rfl | rfl | rfl
        · exact kind_2 o x y h0 h8 hx hx2 hy hy2 w hL
        · exact kind_3 o x y h0 h8 hx hx2 hy hy2 w hL
        · exact kind_4 o x y h0 h8 hx hx2 hy hy2 w hL
        · exact kind_5 o x y h0 h8 hx hx2 hy hy2 w hL
        · exact kind_6 o x y h0 h8 hx hx2 hy hy2 w hL
        · exact kind_7 o x y h0 h8 hx hx2 hy hy2 w hL
end Go.Proofs.YtdfeelmphlellaaGreatDoor
