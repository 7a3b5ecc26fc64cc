/- Contracts of the reference's sign and closes. -/
import Derived.Test.YtihdjofihdgigaaDoorVd
import Derived.Test.YtihdjofihdgigaaDoorTg
import Derived.Test.YtihdjofihdgigaaDoorTe
namespace Go.Proofs.YtihdjofihdgigaaDoor
open Go.RowKit
set_option linter.unusedSimpArgs false
set_option linter.unusedVariables false

set_option maxRecDepth 100000 in
set_option maxHeartbeats 1000000 in
theorem rsign_any (s : ByteArray) (p : Nat) (w : World) (hs : s.size ≤ 1073741824) (hp : p < s.size) : Calls Tryd.prog 50 #[.string s, .int .i64 p] w fun e w' => e = .returned (.string ⟨(signR ((bl s).drop p)).toArray⟩) ∧ Below w.heap.size w w' := by
  have hx1 : bl (s.extract p (p + 1)) = ((bl s).drop p).take 1 := by rw [bl_extract]; congr 1; omega
  have hlen : ((bl s).drop p).length = s.size - p := by rw [List.length_drop, bl_len]
  have hn1 : ((p : Int) + 1).toNat = p + 1 := by omega
  have e1 : s.extract p (p + 1) = ⟨(((bl s).drop p).take 1).toArray⟩ := by rw [← hx1, mk_bl]
  by_cases h2 : p + 2 ≤ s.size
  · have hx2 : bl (s.extract p (p + 2)) = ((bl s).drop p).take 2 := by rw [bl_extract]; congr 1; omega
    have hn2 : ((p : Int) + 2).toNat = p + 2 := by omega
    have e2 : s.extract p (p + 2) = ⟨(((bl s).drop p).take 2).toArray⟩ := by rw [← hx2, mk_bl]
    have hR : signR ((bl s).drop p) = if twoList.contains (((bl s).drop p).take 2) = true then ((bl s).drop p).take 2 else if singleList.contains (((bl s).drop p).take 1) = true then ((bl s).drop p).take 1 else [] := by
      unfold signR
      by_cases hc : twoList.contains (((bl s).drop p).take 2) = true
      · rw [if_pos ⟨by omega, hc⟩, if_pos hc]
      · rw [if_neg (fun h => hc h.2), if_neg hc]
    have hq2 : decide ((p : Int) + 2 ≤ (s.size : Int)) = true := decide_eq_true (by omega)
    have hq3 : (p : Int) + 2 ≤ (s.size : Int) := by omega
    have i2 : inP twoList (s.extract p (p + 2)) = twoList.contains (((bl s).drop p).take 2) := by unfold inP; rw [hx2]
    have i1 : inP singleList (s.extract p (p + 1)) = singleList.contains (((bl s).drop p).take 1) := by unfold inP; rw [hx1]
    rw [hR]
    clear hR hx1 hx2 hlen h2
    cases hc2 : twoList.contains (((bl s).drop p).take 2)
    · rw [hc2] at i2
      cases hc1 : singleList.contains (((bl s).drop p).take 1)
      · rw [hc1] at i1
        have I1 := Lib.hid i1
        have I2 := Lib.hid i2
        have E1 := Lib.hid e1
        have E2 := Lib.hid e2
        clear i1 i2 e1 e2 hc1 hc2
        go_enter Tryd.func50, Tryd.ntmps50
        go_wp2_with fail
        refine (rin_any twoList (s.extract p (p + 2)) _ _ _ (by decide) (fun j h => cell_strs twoList w _ _ rfl j h)).mono ?_
        rintro e w1 ⟨rfl, hw1⟩
        have hB1 : Below w.heap.size w w1 := hw1 ▸ (Below.refl _ _).alloc (Nat.le_refl _) _
        clear hw1
        rw [I2.out]
        go_wp2_with fail
        refine (rin_any singleList (s.extract p (p + 1)) _ _ _ (by decide) (fun j h => cell_strs singleList w1 _ _ rfl j h)).mono ?_
        rintro e w2 ⟨rfl, hw2⟩
        have hB2 : Below w.heap.size w w2 := below_two hB1 (hw2 ▸ (Below.refl _ _).alloc (Nat.le_refl _) _)
        clear hw2
        rw [I1.out]
        go_wp2
        go_ret
        exact ⟨rfl, hB2⟩
      · rw [hc1] at i1
        have I1 := Lib.hid i1
        have I2 := Lib.hid i2
        have E1 := Lib.hid e1
        have E2 := Lib.hid e2
        clear i1 i2 e1 e2 hc1 hc2
        go_enter Tryd.func50, Tryd.ntmps50
        go_wp2_with fail
        refine (rin_any twoList (s.extract p (p + 2)) _ _ _ (by decide) (fun j h => cell_strs twoList w _ _ rfl j h)).mono ?_
        rintro e w1 ⟨rfl, hw1⟩
        have hB1 : Below w.heap.size w w1 := hw1 ▸ (Below.refl _ _).alloc (Nat.le_refl _) _
        clear hw1
        rw [I2.out]
        go_wp2_with fail
        refine (rin_any singleList (s.extract p (p + 1)) _ _ _ (by decide) (fun j h => cell_strs singleList w1 _ _ rfl j h)).mono ?_
        rintro e w2 ⟨rfl, hw2⟩
        have hB2 : Below w.heap.size w w2 := below_two hB1 (hw2 ▸ (Below.refl _ _).alloc (Nat.le_refl _) _)
        clear hw2
        rw [I1.out]
        go_wp2
        go_ret
        exact ⟨by rw [← E1.out]; rfl, hB2⟩
    · rw [hc2] at i2
      have I2 := Lib.hid i2
      have E2 := Lib.hid e2
      clear i1 i2 e1 e2 hc2
      go_enter Tryd.func50, Tryd.ntmps50
      go_wp2_with fail
      refine (rin_any twoList (s.extract p (p + 2)) _ _ _ (by decide) (fun j h => cell_strs twoList w _ _ rfl j h)).mono ?_
      rintro e w2 ⟨rfl, hw2⟩
      have hB2 : Below w.heap.size w w2 := hw2 ▸ (Below.refl _ _).alloc (Nat.le_refl _) _
      clear hw2
      rw [I2.out]
      go_wp2
      go_ret
      exact ⟨by rw [← E2.out]; rfl, hB2⟩
  · have hR : signR ((bl s).drop p) = if singleList.contains (((bl s).drop p).take 1) = true then ((bl s).drop p).take 1 else [] := by
      unfold signR
      rw [if_neg (fun h => h2 (by omega))]
    have hq2 : decide ((p : Int) + 2 ≤ (s.size : Int)) = false := decide_eq_false (by omega)
    have i1 : inP singleList (s.extract p (p + 1)) = singleList.contains (((bl s).drop p).take 1) := by unfold inP; rw [hx1]
    rw [hR]
    clear hR hx1 hlen h2
    cases hc1 : singleList.contains (((bl s).drop p).take 1)
    · rw [hc1] at i1
      have I1 := Lib.hid i1
      have E1 := Lib.hid e1
      clear i1 e1 hc1
      go_enter Tryd.func50, Tryd.ntmps50
      go_wp2_with fail
      refine (rin_any singleList (s.extract p (p + 1)) _ _ _ (by decide) (fun j h => cell_strs singleList w _ _ rfl j h)).mono ?_
      rintro e w2 ⟨rfl, hw2⟩
      have hB2 : Below w.heap.size w w2 := hw2 ▸ (Below.refl _ _).alloc (Nat.le_refl _) _
      clear hw2
      rw [I1.out]
      go_wp2
      go_ret
      exact ⟨rfl, hB2⟩
    · rw [hc1] at i1
      have I1 := Lib.hid i1
      have E1 := Lib.hid e1
      clear i1 e1 hc1
      go_enter Tryd.func50, Tryd.ntmps50
      go_wp2_with fail
      refine (rin_any singleList (s.extract p (p + 1)) _ _ _ (by decide) (fun j h => cell_strs singleList w _ _ rfl j h)).mono ?_
      rintro e w2 ⟨rfl, hw2⟩
      have hB2 : Below w.heap.size w w2 := hw2 ▸ (Below.refl _ _).alloc (Nat.le_refl _) _
      clear hw2
      rw [I1.out]
      go_wp2
      go_ret
      exact ⟨by rw [← E1.out]; rfl, hB2⟩
end Go.Proofs.YtihdjofihdgigaaDoor
