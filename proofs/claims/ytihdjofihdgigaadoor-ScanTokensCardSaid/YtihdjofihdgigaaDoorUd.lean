/- Contracts of scan.whole, types.Name, scan.Word, scan.Name. -/
import Derived.Test.YtihdjofihdgigaaDoorUc
namespace Go.Proofs.YtihdjofihdgigaaDoor
open Go.RowKit
set_option linter.unusedSimpArgs false
set_option linter.unusedVariables false

/-- a slice from a place on, as the walk spells it -/
theorem size_from (s : ByteArray) (p : Nat) : (s.extract p s.size).size = s.size - p := by rw [← bl_len, bl_from, List.length_drop, bl_len]
set_option maxHeartbeats 1000000 in
theorem whole_c (s : ByteArray) (w : World) (h : Laid w) (hs : s.size ≤ 1073741824) : Calls Tryd.prog 22 #[.string s] w fun e w' => e = .returned (.int .i64 (wholeL (bl s))) ∧ Below w.heap.size w w' := by
  go_enter Tryd.func22, Tryd.ntmps22
  go_wp2
  go_loopw [3] (fun at_ wr => ∃ pos : Nat, at_ = .int .i64 pos ∧ pos ≤ s.size ∧ Hid (wholeL (bl s) = pos + wholeL ((bl s).drop pos)) ∧ Below w.heap.size w wr) (fun at_ _ => s.size - (intOf at_).toNat)
  case atStart => exact ⟨0, rfl, by omega, Lib.hid (by simp), Below.refl _ _⟩
  case round =>
    obtain ⟨pos, rfl, hp, HR, hB⟩ := hrel
    by_cases hlt : pos < s.size
    · have hlt' : pos < (bl s).length := by rw [bl_len]; exact hlt
      have hst := dec_step hlt'
      rw [bl_len] at hst
      have hrs := Lib.hid (fun h => wholeL_step hlt' h)
      have hrn := Lib.hid (fun h => wholeL_stop hlt' h)
      have hbk : Hid (broken ((bl s).drop pos) = ((decL ((bl s).drop pos)).1 == 65533 && decide ((decL ((bl s).drop pos)).2 < 2))) := Lib.hid rfl
      have hcall := decode_c (s.extract pos s.size) wr (h.below hB) (by rw [size_from]; omega)
      rw [bl_from] at hcall
      have HC := Lib.hid hcall
      clear hcall hlt'
      generalize hd : decL ((bl s).drop pos) = d at *
      obtain ⟨r, k⟩ := d
      have HD := Lib.hid hd
      clear hd
      simp only [] at hst
      have hw1 : (pos : Int) < (s.size : Int) := by omega
      by_cases hr : r = 65533 ∧ k < 2
      · have hb : broken ((bl s).drop pos) = true := by rw [hbk.out]; simp [hr.1, hr.2]
        have hy := Lib.hid (hrn.out hb)
        have hr1 : (((r : Nat) : Int) == 65533) = true := by simp [hr.1]
        have hk2 : (k : Int) < 2 := by omega
        clear hrs hrn hbk hb hr
        go_wp2_with fail
        refine HC.out.mono ?_
        rintro e w1 ⟨rfl, hw⟩
        have hB2 := below_two hB hw
        clear hw hB HC
        go_wp2
        go_ret
        exact ⟨ret_u64 (by have h1 := HR.out; have h2 := hy.out; omega), hB2⟩
      · have hb : broken ((bl s).drop pos) = false := by rw [hbk.out, Bool.and_eq_false_iff]; simp; omega
        have hy := Lib.hid (hrs.out hb)
        have hr1 : ((((r : Nat) : Int) == 65533) = false) ∨ ((((r : Nat) : Int) == 65533) = true ∧ ¬ (k : Int) < 2) := by
          by_cases h1 : r = 65533
          · right; exact ⟨by simp [h1], by omega⟩
          · left; simp; omega
        clear hrs hrn hbk hb hr
        rcases hr1 with hr1 | ⟨hr1, hr2⟩
        all_goals
          go_wp2_with fail
          refine HC.out.mono ?_
          rintro e w1 ⟨rfl, hw⟩
          have hB2 := below_two hB hw
          clear hw hB HC
          go_wp2
          go_roundw
          case rel => exact ⟨pos + k, by go_num, hst.2, Lib.hid (by rw [HR.out, hy.out]; omega), hB2⟩
          case measure => simp [intOf]; omega
    · have he : wholeL (bl s) = s.size := by
        rw [HR.out, drop_end (by rw [bl_len]; exact hlt), wholeL_nil]; omega
      have hpe : pos = s.size := by omega
      subst hpe
      have HE := Lib.hid he
      clear he
      go_wp2
      go_ret
      exact ⟨ret_u64 (by rw [HE.out]), hB⟩
end Go.Proofs.YtihdjofihdgigaaDoor
