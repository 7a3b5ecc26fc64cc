/- The walk of the law ScanWords: it returns true for every input of a bounded length, where the listed variables hold what they are laid with. -/
import Derived.Test.YtihdjofihdgigaaDoorUm
import Derived.Test.YtihdjofihdgigaaDoorVd
namespace Go.Proofs.YtihdjofihdgigaaDoor
open Go.RowKit
set_option linter.unusedSimpArgs false
set_option linter.unusedVariables false

set_option maxHeartbeats 2000000 in
theorem walkScanWords (s : ByteArray) (hs : s.size ≤ 1073741824) (w : World) (h : Laid w) :
    Calls Tryd.prog 9 #[.string s] w fun e w' => e = .returned (.bool true) ∧ Below w.heap.size w w' := by
  have C1 := Lib.hid (number_c s w h hs)
  have C2 := Lib.hid (fun w1 => rnumber_any s w1 hs)
  have C3 := Lib.hid (fun w1 h1 => answers_c w1 h1)
  have C4 := Lib.hid (fun w1 h1 => name_c s w1 h1 hs)
  have C5 := Lib.hid (fun w1 => rname_c s w1 hs)
  have C6 := Lib.hid (fun w1 h1 => word_c s w1 h1 hs)
  have hi : inP wordList s = isWord (bl s) := rfl
  have C7 := Lib.hid (fun w1 => rword3_any s w1)
  rw [hi] at C7
  clear hi
  generalize (nameP (bl s) && !isWord (bl s)) = b1 at *
  generalize isWord (bl s) = b2 at *
  generalize (numP (bl s)).1 = n1 at *
  generalize (numP (bl s)).2 = n2 at *
  go_enter Tryd.func9, Tryd.ntmps9
  go_wp2_with fail
  refine C1.out.mono ?_
  rintro e w1 ⟨rfl, hw1⟩
  have hl1 := h.below hw1
  go_wp2_with fail
  refine (C2.out w1).mono ?_
  rintro e w2 ⟨rfl, rfl⟩
  go_wp2_with fail
  refine (C3.out _ hl1).mono ?_
  rintro e w3 ⟨rfl, hw3⟩
  have hl3 := hl1.below hw3
  have hB3 := below_two hw1 hw3
  clear hw1 hw3 C1 C2 C3 h
  go_wp2_with fail
  refine (C4.out _ hl3).mono ?_
  rintro e w4 ⟨rfl, hw4⟩
  have hl4 := hl3.below hw4
  have hB4 := below_two hB3 hw4
  clear hw4 hB3 C4
  go_wp2_with fail
  refine (C5.out _).mono ?_
  rintro e w5 ⟨rfl, hw5⟩
  have hl5 := hl4.below hw5
  have hB5 := below_two hB4 hw5
  clear hw5 hB4 C5 hl3 hl4
  go_wp2_with fail
  refine (C6.out _ hl5).mono ?_
  rintro e w6 ⟨rfl, rfl⟩
  go_wp2_with fail
  refine (C7.out _).mono ?_
  rintro e w7 ⟨rfl, hw7⟩
  have hB7 := below_two hB5 hw7
  go_wp2
  go_ret
  exact ⟨ret_bool (by simp), hB7⟩
end Go.Proofs.YtihdjofihdgigaaDoor
