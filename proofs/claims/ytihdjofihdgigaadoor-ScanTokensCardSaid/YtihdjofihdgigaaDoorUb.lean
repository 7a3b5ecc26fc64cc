/- Contracts of the functions that range over a text: run, stretch, Broken, the names. -/
import Derived.Test.YtihdjofihdgigaaDoorUa
import Derived.Test.YtihdjofihdgigaaDoorTc
import Derived.Laws.RangeAny
namespace Go.Proofs.YtihdjofihdgigaaDoor
open Go.RowKit
set_option linter.unusedSimpArgs false
set_option linter.unusedVariables false

theorem below_iter (w : World) (s : ByteArray) (p : Nat) : Below w.heap.size w (w.iter s p) := (Below.refl _ _).alloc (Nat.le_refl _) _
theorem drop_cons {l : List UInt8} {p : Nat} (h : p < l.length) : ∃ b m, l.drop p = b :: m := by
  cases hd : l.drop p with
  | nil => simp at hd; omega
  | cons b m => exact ⟨b, m, rfl⟩
theorem runL_stop {l : List UInt8} {p : Nat} (h : p < l.length) (hr : isLD (decL (l.drop p)).1 = false) : runL (l.drop p) = 0 := by
  obtain ⟨b, m, hm⟩ := drop_cons h
  rw [hm] at hr ⊢
  exact runL_no b m hr
theorem drop_end {l : List UInt8} {p : Nat} (h : ¬ p < l.length) : l.drop p = [] := by simp; omega
theorem dec_step {l : List UInt8} {p : Nat} (h : p < l.length) : 1 ≤ (decL (l.drop p)).2 ∧ p + (decL (l.drop p)).2 ≤ l.length := by
  obtain ⟨b, m, hm⟩ := drop_cons h
  have h1 := dec_pos b m
  have h2 := dec_fits b m
  rw [← hm] at h1 h2
  rw [List.length_drop] at h2
  omega
set_option maxHeartbeats 1000000 in
theorem run_any (s : ByteArray) (w : World) (hs : s.size ≤ 1073741824) : Calls Tryd.prog 47 #[.string s] w fun e w' => e = .returned (.int .i64 (runL (bl s))) ∧ Below w.heap.size w w' := by
  go_enter Tryd.func47, Tryd.ntmps47
  go_wp2
  go_loopw [3] (fun _ wr => ∃ pos : Nat, wr = w.iter s pos ∧ pos ≤ s.size ∧ Hid (runL (bl s) = pos + runL ((bl s).drop pos))) (fun _ wr => s.size - wr.iterPos w.heap.size)
  case atStart => exact ⟨0, rfl, by omega, Lib.hid (by simp)⟩
  case round =>
    obtain ⟨pos, rfl, hp, HR⟩ := hrel
    by_cases hlt : pos < s.size
    · have hnx : ∀ ty, (Instr.next (.pointer (some ⟨w.heap.size, 0, none⟩)) true ty).run Tryd.prog (w.iter s pos) = _ := fun ty => run_next_any w s pos ty hlt
      rw [dec_bl s pos hlt] at hnx
      have hlt' : pos < (bl s).length := by rw [bl_len]; exact hlt
      have hst := dec_step hlt'
      rw [bl_len] at hst
      have hrs := Lib.hid (fun h => runL_at (bl s) pos hlt' h)
      have hrn := Lib.hid (fun h => runL_stop hlt' h)
      clear hlt'
      generalize hd : decL ((bl s).drop pos) = d at *
      obtain ⟨r, k⟩ := d
      have HD := Lib.hid hd
      clear hd
      simp only [] at hst hnx
      cases hL : isLet r
      · cases hD : isDig r
        · go_wp2_with (first | (go_at_call 48; refine (letter_any _ _).mono ?_; rintro e w' ⟨rfl, rfl⟩) | (go_at_call 31; refine (digit_any _ _).mono ?_; rintro e w' ⟨rfl, rfl⟩))
          go_ret
          exact ⟨ret_u64 (by rw [HR.out, hrn.out (by simp [isLD, hL, hD])]; simp), below_iter _ _ _⟩
        · go_wp2_with (first | (go_at_call 48; refine (letter_any _ _).mono ?_; rintro e w' ⟨rfl, rfl⟩) | (go_at_call 31; refine (digit_any _ _).mono ?_; rintro e w' ⟨rfl, rfl⟩))
          go_roundw
          case rel => exact ⟨pos + k, rfl, hst.2, Lib.hid (by rw [HR.out, hrs.out (by simp [isLD, hL, hD])]; omega)⟩
          case measure => simp; omega
      · go_wp2_with (first | (go_at_call 48; refine (letter_any _ _).mono ?_; rintro e w' ⟨rfl, rfl⟩) | (go_at_call 31; refine (digit_any _ _).mono ?_; rintro e w' ⟨rfl, rfl⟩))
        go_roundw
        case rel => exact ⟨pos + k, rfl, hst.2, Lib.hid (by rw [HR.out, hrs.out (by simp [isLD, hL])]; omega)⟩
        case measure => simp; omega
    · have hnx : ∀ ty, (Instr.next (.pointer (some ⟨w.heap.size, 0, none⟩)) true ty).run Tryd.prog (w.iter s pos) = _ := fun ty => run_next_end w s pos ty hlt
      have he : runL (bl s) = s.size := by
        rw [HR.out, drop_end (by rw [bl_len]; exact hlt), runL_nil]; omega
      have HE := Lib.hid he
      clear he
      go_wp2
      go_ret
      exact ⟨ret_u64 (by rw [HE.out]), below_iter _ _ _⟩
end Go.Proofs.YtihdjofihdgigaaDoor
