/- Contract of the reference's Name (layer 2): which texts are names. -/
import Derived.Test.YtihdjofihdgigaaDoorVa
namespace Go.Proofs.YtihdjofihdgigaaDoor
open Go.RowKit
set_option linter.unusedSimpArgs false
set_option linter.unusedVariables false

theorem name_no0 {l : List UInt8} (h : 0 < l.length) (hL : isLet (decL (l.drop 0)).1 = false) : nameP l = false := by
  simp at hL; simp [nameP, hL]
theorem name_no {l : List UInt8} {p : Nat} (h : p < l.length) (hr : runL l = p + runL (l.drop p)) (hs : isLD (decL (l.drop p)).1 = false) : nameP l = false := by
  rw [runL_stop h hs] at hr
  have : (runL l == l.length) = false := by simp; omega
  simp [nameP, this]
theorem name_end {l : List UInt8} {p : Nat} (h : ¬ p < l.length) (hp : p ≤ l.length) (hr : runL l = p + runL (l.drop p)) (hn : p = 0 ∨ isLet (decL l).1 = true) : nameP l = (decide (1 ≤ l.length) && decide (l.length ≤ 64)) := by
  rw [drop_end h, runL_nil] at hr
  have h1 : (runL l == l.length) = true := by simp; omega
  by_cases h0 : l.length = 0
  · simp [nameP, h0]
  · have hL : isLet (decL l).1 = true := by rcases hn with hn | hn; omega; exact hn
    simp [nameP, h1, hL]
set_option maxHeartbeats 1000000 in
theorem rname2_any (s : ByteArray) (w : World) (hs : s.size ≤ 1073741824) : Calls Tryd.prog 36 #[.string s] w fun e w' => e = .returned (.bool (nameP (bl s))) ∧ Below w.heap.size w w' := by
  go_enter Tryd.func36, Tryd.ntmps36
  go_wp2
  go_loopw [3] (fun _ wr => ∃ pos : Nat, wr = w.iter s pos ∧ pos ≤ s.size ∧ Hid (runL (bl s) = pos + runL ((bl s).drop pos)) ∧ Hid (pos = 0 ∨ isLet (decL (bl s)).1 = true)) (fun _ wr => s.size - wr.iterPos w.heap.size)
  case atStart => exact ⟨0, rfl, by omega, Lib.hid (by simp), Lib.hid (.inl rfl)⟩
  case round =>
    obtain ⟨pos, rfl, hp, HR, HN⟩ := hrel
    by_cases hlt : pos < s.size
    · have hnx : ∀ ty, (Instr.next (.pointer (some ⟨w.heap.size, 0, none⟩)) true ty).run Tryd.prog (w.iter s pos) = _ := fun ty => run_next_any w s pos ty hlt
      rw [dec_bl s pos hlt] at hnx
      have hlt' : pos < (bl s).length := by rw [bl_len]; exact hlt
      have hst := dec_step hlt'
      rw [bl_len] at hst
      have hrs := Lib.hid (fun h => runL_at (bl s) pos hlt' h)
      have hno := Lib.hid (fun h => name_no hlt' HR.out h)
      have hno0 : Hid (pos = 0 → isLet (decL ((bl s).drop pos)).1 = false → nameP (bl s) = false) := Lib.hid (fun h0 h => by subst h0; exact name_no0 (by omega) h)
      have hfst : Hid (isLet (decL ((bl s).drop pos)).1 = true → (isLet (decL (bl s)).1 = true)) := Lib.hid (fun h => by
        rcases HN.out with h0 | h0
        · subst h0; simpa using h
        · exact h0)
      clear hlt'
      generalize hd : decL ((bl s).drop pos) = d at *
      obtain ⟨r, k⟩ := d
      have HD := Lib.hid hd
      clear hd
      simp only [] at hst hnx
      cases hL : isLet r
      · by_cases h0 : pos = 0
        · have hy := Lib.hid (hno0.out h0 hL)
          have h0' : ¬ (0 : Int) < (pos : Int) := by omega
          clear hno0 hfst hno hrs HN h0
          go_wp2_with (first | (go_at_call 55; refine (rletter_any _ _).mono ?_; rintro e w' ⟨rfl, rfl⟩))
          go_ret
          exact ⟨ret_bool (by rw [hy.out]), below_iter _ _ _⟩
        · have h0' : (0 : Int) < (pos : Int) := by omega
          by_cases hD : isDig r = true
          · have hy := Lib.hid (hrs.out (by simp [isLD, hD]))
            obtain ⟨hL3, hL4⟩ : 48 ≤ (r : Int) ∧ (r : Int) ≤ 57 := by simpa [isDig] using hD
            have hn : Hid (isLet (decL (bl s)).1 = true) := Lib.hid (by rcases HN.out with h | h; exact absurd h h0; exact h)
            clear hno0 hfst hno hrs HN h0 hD
            go_wp2_with (first | (go_at_call 55; refine (rletter_any _ _).mono ?_; rintro e w' ⟨rfl, rfl⟩))
            go_roundw
            case rel => exact ⟨pos + k, rfl, hst.2, Lib.hid (by rw [HR.out, hy.out]; omega), Lib.hid (.inr hn.out)⟩
            case measure => simp; omega
          · have hD' : isDig r = false := by simpa using hD
            have hy := Lib.hid (hno.out (by simp [isLD, hD', hL]))
            have hL3 : (r : Int) < 48 ∨ 57 < (r : Int) := by simp [isDig] at hD'; omega
            clear hno0 hfst hno hrs HN h0 hD hD'
            rcases hL3 with hL3 | hL3
            all_goals
              go_wp2_with (first | (go_at_call 55; refine (rletter_any _ _).mono ?_; rintro e w' ⟨rfl, rfl⟩))
              go_ret
              exact ⟨ret_bool (by rw [hy.out]), below_iter _ _ _⟩
      · have hy := Lib.hid (hrs.out (by simp [isLD, hL]))
        have hn := Lib.hid (hfst.out hL)
        clear hno0 hfst hno hrs HN
        go_wp2_with (first | (go_at_call 55; refine (rletter_any _ _).mono ?_; rintro e w' ⟨rfl, rfl⟩))
        go_roundw
        case rel => exact ⟨pos + k, rfl, hst.2, Lib.hid (by rw [HR.out, hy.out]; omega), Lib.hid (.inr hn.out)⟩
        case measure => simp; omega
    · have hnx : ∀ ty, (Instr.next (.pointer (some ⟨w.heap.size, 0, none⟩)) true ty).run Tryd.prog (w.iter s pos) = _ := fun ty => run_next_end w s pos ty hlt
      have he := name_end (l := bl s) (p := pos) (by rw [bl_len]; exact hlt) (by rw [bl_len]; exact hp) HR.out HN.out
      rw [bl_len] at he
      have HE := Lib.hid he
      clear he HN HR
      by_cases h1 : 1 ≤ s.size <;> by_cases h2 : s.size ≤ 64
      all_goals
        have h1' : (decide (1 ≤ (s.size : Int))) = decide (1 ≤ s.size) := by rw [decide_eq_decide]; omega
        go_wp2
        go_ret
        exact ⟨ret_bool (by rw [HE.out]; simp [h1, h2]; try omega), below_iter _ _ _⟩
end Go.Proofs.YtihdjofihdgigaaDoor
