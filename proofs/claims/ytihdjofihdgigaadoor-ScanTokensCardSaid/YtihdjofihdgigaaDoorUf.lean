/- Contract of strings.ContainsRune at the letters of digits in sixteens, at every byte. -/
import Derived.Test.YtihdjofihdgigaaDoorUe
import Derived.Laws.Runes
namespace Go.Proofs.YtihdjofihdgigaaDoor
open Go.RowKit
set_option linter.unusedSimpArgs false
set_option linter.unusedVariables false

def hexLetters : ByteArray := ⟨#[97, 98, 99, 100, 101, 102, 65, 66, 67, 68, 69, 70]⟩
def isHexL (c : UInt8) : Bool := hexLetters.data.toList.contains c
theorem idx_none (l : List UInt8) (c : UInt8) (h : l.contains c = false) : Lib.indexByte l c = -1 := by
  have h1 := indexByte_neg l c
  rw [h] at h1
  have h2 := Lib.indexByte_ge l c
  simp at h1; omega
theorem conv_rune (c : UInt8) (h : 128 ≤ c.toNat) (w : World) : (convert 21 9 (.int .i32 (c.toNat : Int))).run Tryd.prog w = .ok (.string ⟨#[UInt8.ofNat (192 + c.toNat / 64), UInt8.ofNat (128 + c.toNat % 64)]⟩) w := by
  have hc := c.toNat_lt
  rw [run_convert_int_string w _ _ _ _ (by kernel_rfl) (by kernel_rfl)]
  have e : Utf8.encode (c.toNat : Int) = ⟨#[UInt8.ofNat (192 + c.toNat / 64), UInt8.ofNat (128 + c.toNat % 64)]⟩ := by
    unfold Utf8.encode
    have hv : Utf8.valid (c.toNat : Int) = true := by unfold Utf8.valid; simp; omega
    have h1 : ¬ (c.toNat : Int).toNat < 128 := by omega
    have h2 : (c.toNat : Int).toNat < 2048 := by omega
    simp only [hv, if_true]
    rw [if_neg h1, if_pos h2]
    have e2 : (c.toNat : Int).toNat = c.toNat := by omega
    rw [e2]
  rw [e]
set_option maxRecDepth 100000 in
set_option maxHeartbeats 1000000 in
theorem index_high (c : UInt8) (h : 128 ≤ c.toNat) (w : World) : Calls Tryd.prog 51 #[.string ⟨#[97, 98, 99, 100, 101, 102, 65, 66, 67, 68, 69, 70]⟩, .int .i32 (c.toNat : Int)] w fun e w' => e = .returned (.int .i64 (-1)) ∧ Below w.heap.size w w' := by
  have hc := c.toNat_lt
  have hconv := conv_rune c h
  obtain ⟨b0, hb0⟩ : ∃ b0 : UInt8, b0 = UInt8.ofNat (192 + c.toNat / 64) := ⟨_, rfl⟩
  obtain ⟨b1, hb1⟩ : ∃ b1 : UInt8, b1 = UInt8.ofNat (128 + c.toNat % 64) := ⟨_, rfl⟩
  rw [← hb0, ← hb1] at hconv
  have hb1' : 128 ≤ b1.toNat := by rw [hb1]; simp; omega
  have hv : Lib.validRune (c.toNat : Int) = true := by unfold Lib.validRune; simp; omega
  have hr : ∀ w, Calls Tryd.prog 61 #[.int .i32 (c.toNat : Int)] w fun e w' => e = .returned (.bool (Lib.validRune (c.toNat : Int))) ∧ w = w' := fun w => (Tryd.utf8_ValidRune (c.toNat : Int) w).mono fun _ _ ⟨h1, h2⟩ => ⟨h1, h2.symm⟩
  rw [hv] at hr
  have HR := Lib.hid hr
  clear hr hv hb0 hb1
  obtain ⟨x, hx⟩ : ∃ x : Int, x = (c.toNat : Int) := ⟨_, rfl⟩
  rw [← hx] at hconv HR ⊢
  have hx0 : 128 ≤ x := by omega
  have hx1 : x < 256 := by omega
  clear hx h hc
  have hidx : ∀ w, Calls Tryd.prog 25 #[.string ⟨#[99, 100, 101, 102, 65, 66, 67, 68, 69, 70]⟩, .int .u8 (b1.toNat : Int)] w fun e w' => e = .returned (.int .i64 (-1)) ∧ w = w' := fun w => by
    refine (Tryd.strings_IndexByte _ _ w).mono fun _ _ ⟨h1, h2⟩ => ⟨?_, h2.symm⟩
    rw [h1]
    have hn : ([99, 100, 101, 102, 65, 66, 67, 68, 69, 70] : List UInt8).contains (b1.toNat : Int).toNat.toUInt8 = false := by
      rw [byte_int, ← Bool.not_eq_true, List.contains_iff_mem]
      intro hm
      have hall : ∀ c ∈ ([99, 100, 101, 102, 65, 66, 67, 68, 69, 70] : List UInt8), c.toNat < 128 := by decide
      have := hall b1 hm
      omega
    exact congrArg _ (congrArg _ (idx_none _ _ hn))
  have hne : ((((⟨#[97, 98, 99, 100, 101, 102, 65, 66, 67, 68, 69, 70]⟩ : ByteArray)[1]'(by decide)).toNat : Int) != (((⟨#[b0, b1]⟩ : ByteArray)[1]'(by show 1 < 2; decide)).toNat : Int)) = true := by
    rw [bne_iff_ne]; show (98 : Int) ≠ (b1.toNat : Int); omega
  go_enter Tryd.func51, Tryd.ntmps51
  go_wp2_with (first | (go_at_call 61; refine (HR.out _).mono ?_; rintro e w' ⟨rfl, rfl⟩))
  go_step3
  go_wp2
  refine wp_loop_rounds 2 ?_
  rw [rounds_succ]
  go_wp2
  go_step3
  go_wp2
  go_quiet (fail)
  have hB := below_dn (Below.refl w.heap.size w) nq
  generalize w.drewN nq = W2 at *
  go_wp2
  go_quiet ((go_at_call 25; exact quiet_eq (hidx _)))
  go_wp2
  repeat (first | rw [Exit.noGoto_ret] | simp only [Exit.inBlock, Exit.then])
  go_ret
  exact ⟨rfl, below_dn hB _⟩
theorem hexrune_c (c : UInt8) (w : World) : Calls Tryd.prog 32 #[.string ⟨#[97, 98, 99, 100, 101, 102, 65, 66, 67, 68, 69, 70]⟩, .int .i32 (c.toNat : Int)] w fun e w' => e = .returned (.bool (isHexL c)) ∧ Below w.heap.size w w' := by
  by_cases h : c.toNat < 128
  · refine (Tryd.strings_ContainsRune_ascii _ _ w (by omega) (by omega)).mono fun e w' ⟨h1, h2⟩ => ?_
    subst h2
    refine ⟨?_, Below.refl _ _⟩
    rw [h1, indexByte_neg, byte_int]
    rfl
  · have hi := index_high c (by omega) w
    have hr : isHexL c = false := by
      unfold isHexL
      rw [← Bool.not_eq_true, List.contains_iff_mem]
      intro hm
      have hall : ∀ c ∈ hexLetters.data.toList, c.toNat < 128 := by decide
      exact h (hall c hm)
    rw [hr]
    have HI := Lib.hid hi
    clear hi hr
    go_enter Tryd.func32, Tryd.ntmps32
    go_wp2_with fail
    refine HI.out.mono ?_
    rintro e w1 ⟨rfl, hw⟩
    go_wp2
    go_ret
    exact ⟨rfl, hw⟩
end Go.Proofs.YtihdjofihdgigaaDoor
