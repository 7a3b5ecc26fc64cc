/- Contracts of the reference's functions that range over a text: stretch, Broken, Name of layer 2. -/
import Derived.Test.YtihdjofihdgigaaDoorUb
namespace Go.Proofs.YtihdjofihdgigaaDoor
open Go.RowKit
set_option linter.unusedSimpArgs false
set_option linter.unusedVariables false

/-- a name: letters and digits, a letter first, not too many -/
def nameP (l : List UInt8) : Bool := isLet (decL l).1 && runL l == l.length && decide (1 ≤ l.length) && decide (l.length ≤ 64)
set_option maxHeartbeats 1000000 in
theorem rstretch_any (s : ByteArray) (p : Nat) (w : World) (hs : s.size ≤ 1073741824) (hp0 : p ≤ s.size) : Calls Tryd.prog 49 #[.string s, .int .i64 p] w fun e w' => e = .returned (.int .i64 ((p + runL ((bl s).drop p) : Nat) : Int)) ∧ Below w.heap.size w w' := by
  have hx := bl_from s p
  have hz : (s.extract p s.size).size = s.size - p := by rw [← bl_len, hx, List.length_drop, bl_len]
  generalize ht : (s.extract p s.size) = t at *
  have hts : p + t.size ≤ s.size := by omega
  have HT := Lib.hid ht
  have HX := Lib.hid hx
  have HZ := Lib.hid hz
  clear ht hx hz
  go_enter Tryd.func49, Tryd.ntmps49
  have hsl : ∀ W, (Instr.slice 9 (.string s) (some (.int .i64 (p : Int))) none none).run Tryd.prog W = .ok (.string t) W := fun W => by
    rw [← HT.out]; go_simp
  go_wp2
  go_loopw [5] (fun _ wr => ∃ pos : Nat, wr = w.iter t pos ∧ pos ≤ t.size ∧ Hid (runL (bl t) = pos + runL ((bl t).drop pos))) (fun _ wr => t.size - wr.iterPos w.heap.size)
  case atStart => exact ⟨0, rfl, by omega, Lib.hid (by simp)⟩
  case round =>
    obtain ⟨pos, rfl, hp, HR⟩ := hrel
    by_cases hlt : pos < t.size
    · have hnx : ∀ ty, (Instr.next (.pointer (some ⟨w.heap.size, 0, none⟩)) true ty).run Tryd.prog (w.iter t pos) = _ := fun ty => run_next_any w t pos ty hlt
      rw [dec_bl t pos hlt] at hnx
      have hlt' : pos < (bl t).length := by rw [bl_len]; exact hlt
      have hst := dec_step hlt'
      rw [bl_len] at hst
      have hrs := Lib.hid (fun h => runL_at (bl t) pos hlt' h)
      have hrn := Lib.hid (fun h => runL_stop hlt' h)
      clear hlt'
      generalize hd : decL ((bl t).drop pos) = d at *
      obtain ⟨r, k⟩ := d
      have HD := Lib.hid hd
      clear hd
      simp only [] at hst hnx
      by_cases hL : isLD r = true
      · have hy := Lib.hid (hrs.out hL)
        simp only [isLD, Bool.or_eq_true] at hL
        clear hrs hrn
        cases hL1 : isLet r
        · rw [hL1] at hL
          have hL2 : 48 ≤ (r : Int) ∧ (r : Int) ≤ 57 := by simpa [isDig] using hL
          clear hL
          obtain ⟨hL3, hL4⟩ := hL2
          go_wp2_with (first | (go_at_call 55; refine (rletter_any _ _).mono ?_; rintro e w' ⟨rfl, rfl⟩))
          go_roundw
          case rel => exact ⟨pos + k, rfl, hst.2, Lib.hid (by rw [HR.out, hy.out]; omega)⟩
          case measure => simp; omega
        · clear hL
          go_wp2_with (first | (go_at_call 55; refine (rletter_any _ _).mono ?_; rintro e w' ⟨rfl, rfl⟩))
          go_roundw
          case rel => exact ⟨pos + k, rfl, hst.2, Lib.hid (by rw [HR.out, hy.out]; omega)⟩
          case measure => simp; omega
      · have hL' : isLD r = false := by simpa using hL
        have hy := Lib.hid (hrn.out hL')
        clear hrs hrn hL
        simp only [isLD, Bool.or_eq_false_iff] at hL'
        obtain ⟨hL1, hL2⟩ := hL'
        have hL3 : (r : Int) < 48 ∨ 57 < (r : Int) := by simp [isDig] at hL2; omega
        have hL4 : (decide ((r : Int) < 48) || decide (57 < (r : Int))) = true := by simpa using hL3
        clear hL2
        rcases hL3 with hL3 | hL3
        all_goals
          clear hL4
          go_wp2_with (first | (go_at_call 55; refine (rletter_any _ _).mono ?_; rintro e w' ⟨rfl, rfl⟩))
          go_ret; exact ⟨ret_u64 (by have h1 := HR.out; have h2 := hy.out; rw [← HX.out]; omega), below_iter _ _ _⟩
    · have hnx : ∀ ty, (Instr.next (.pointer (some ⟨w.heap.size, 0, none⟩)) true ty).run Tryd.prog (w.iter t pos) = _ := fun ty => run_next_end w t pos ty hlt
      have he : runL (bl t) = t.size := by
        rw [HR.out, drop_end (by rw [bl_len]; exact hlt), runL_nil]; omega
      have HE := Lib.hid he
      clear he
      go_wp2
      go_ret
      exact ⟨ret_u64 (by have h1 := HE.out; have h2 := HZ.out; rw [← HX.out]; omega), below_iter _ _ _⟩
theorem wholeL_step {l : List UInt8} {p : Nat} (h : p < l.length) (hb : broken (l.drop p) = false) : wholeL (l.drop p) = (decL (l.drop p)).2 + wholeL (l.drop (p + (decL (l.drop p)).2)) := by
  obtain ⟨b, m, hm⟩ := drop_cons h
  rw [hm] at hb
  rw [hm, wholeL_yes b m hb, ← hm, List.drop_drop]
theorem wholeL_stop {l : List UInt8} {p : Nat} (h : p < l.length) (hb : broken (l.drop p) = true) : wholeL (l.drop p) = 0 := by
  obtain ⟨b, m, hm⟩ := drop_cons h
  rw [hm] at hb ⊢
  exact wholeL_no b m hb
theorem broken_at {l : List UInt8} {p : Nat} (h : p < l.length) (hr : (decL (l.drop p)).1 = 65533) : broken (l.drop p) = decide ((l.drop p).take 3 ≠ [239, 191, 189]) := by
  obtain ⟨b, m, hm⟩ := drop_cons h
  rw [hm] at hr ⊢
  exact broken_ref b m hr
set_option maxHeartbeats 1000000 in
theorem rbroken_any (s : ByteArray) (w : World) (hs : s.size ≤ 1073741824) : Calls Tryd.prog 28 #[.string s] w fun e w' => e = .returned (.int .i64 (wholeL (bl s))) ∧ Below w.heap.size w w' := by
  go_enter Tryd.func28, Tryd.ntmps28
  go_wp2
  go_loopw [3] (fun _ wr => ∃ pos : Nat, wr = w.iter s pos ∧ pos ≤ s.size ∧ Hid (wholeL (bl s) = pos + wholeL ((bl s).drop pos))) (fun _ wr => s.size - wr.iterPos w.heap.size)
  case atStart => exact ⟨0, rfl, by omega, Lib.hid (by simp)⟩
  case round =>
    obtain ⟨pos, rfl, hp, HR⟩ := hrel
    by_cases hlt : pos < s.size
    · have hnx : ∀ ty, (Instr.next (.pointer (some ⟨w.heap.size, 0, none⟩)) true ty).run Tryd.prog (w.iter s pos) = _ := fun ty => run_next_any w s pos ty hlt
      rw [dec_bl s pos hlt] at hnx
      have hlt' : pos < (bl s).length := by rw [bl_len]; exact hlt
      have hst := dec_step hlt'
      rw [bl_len] at hst
      have hrs := Lib.hid (fun h => wholeL_step hlt' h)
      have hrn := Lib.hid (fun h => wholeL_stop hlt' h)
      have hbr := Lib.hid (fun h => broken_at hlt' h)
      have hbk : Hid (broken ((bl s).drop pos) = ((decL ((bl s).drop pos)).1 == 65533 && decide ((decL ((bl s).drop pos)).2 < 2))) := Lib.hid rfl
      have htk : Hid (((bl s).drop pos).take 3 = bl (s.extract pos (pos + 3))) := Lib.hid (by rw [bl_extract]; congr 1; omega)
      clear hlt'
      generalize hd : decL ((bl s).drop pos) = d at *
      obtain ⟨r, k⟩ := d
      have HD := Lib.hid hd
      clear hd
      simp only [] at hst hnx
      by_cases hr : r = 65533
      · have hr1 : (((r : Nat) : Int) == 65533) = true := by simp [hr]
        by_cases h3 : s.size < pos + 3
        · have hb : broken ((bl s).drop pos) = true := by
            rw [hbr.out hr]
            simp only [ne_eq, decide_not, Bool.not_eq_true', decide_eq_false_iff_not]
            intro he
            have := congrArg List.length he
            simp [bl_len] at this
            omega
          have hy := Lib.hid (hrn.out hb)
          have h3' : (s.size : Int) < (pos : Int) + 3 := by omega
          clear hrs hrn hbr hb htk hr hbk
          go_wp2
          go_ret
          exact ⟨ret_u64 (by have h1 := HR.out; have h2 := hy.out; omega), below_iter _ _ _⟩
        · have h3' : ¬ ((s.size : Int) < (pos : Int) + 3) := by omega
          have hn : ((pos : Int) + 3).toNat = pos + 3 := by omega
          have hbb := hbr.out hr
          cases hb : broken ((bl s).drop pos)
          · have hq : ((s.extract pos (pos + 3)).toList == [239, 191, 189]) = true := by
              rw [toList_bl, ← htk.out, beq_iff_eq]
              rw [hb] at hbb
              simpa using hbb.symm
            have hy := Lib.hid (hrs.out hb)
            clear hrs hrn hbr hb htk hr hbk hbb
            go_wp2
            go_roundw
            case rel => exact ⟨pos + k, rfl, hst.2, Lib.hid (by rw [HR.out, hy.out]; simp only []; omega)⟩
            case measure => simp; omega
          · have hq : ((s.extract pos (pos + 3)).toList == [239, 191, 189]) = false := by
              rw [toList_bl, ← htk.out, beq_eq_false_iff_ne]
              rw [hb] at hbb
              simpa using hbb.symm
            have hy := Lib.hid (hrn.out hb)
            clear hrs hrn hbr hb htk hr hbk hbb
            go_wp2
            go_ret
            exact ⟨ret_u64 (by have h1 := HR.out; have h2 := hy.out; omega), below_iter _ _ _⟩
      · have hr1 : ((r : Int) == 65533) = false := by simp; omega
        have hb : broken ((bl s).drop pos) = false := by rw [hbk.out]; simp [hr]
        have hy := Lib.hid (hrs.out hb)
        clear hrs hrn hbr hb htk hr hbk
        go_wp2
        go_roundw
        case rel => exact ⟨pos + k, rfl, hst.2, Lib.hid (by rw [HR.out, hy.out]; simp only []; omega)⟩
        case measure => simp; omega
    · have hnx : ∀ ty, (Instr.next (.pointer (some ⟨w.heap.size, 0, none⟩)) true ty).run Tryd.prog (w.iter s pos) = _ := fun ty => run_next_end w s pos ty hlt
      have he : wholeL (bl s) = s.size := by
        rw [HR.out, drop_end (by rw [bl_len]; exact hlt), wholeL_nil]; omega
      have HE := Lib.hid he
      clear he
      go_wp2
      go_ret
      exact ⟨ret_u64 (by rw [HE.out]), below_iter _ _ _⟩
end Go.Proofs.YtihdjofihdgigaaDoor
