/- Contracts of types.Name, scan.Word, scan.Name: which texts are names, and which are words of the language. -/
import Derived.Test.YtihdjofihdgigaaDoorUd
import Derived.Lib.ValidU
namespace Go.Proofs.YtihdjofihdgigaaDoor
open Go.RowKit
set_option linter.unusedSimpArgs false
set_option linter.unusedVariables false

theorem decodeL_dec (l : List UInt8) : Lib.decodeL l = decL l := rfl
theorem valid_run : ∀ (n : Nat) (l : List UInt8), runL l = l.length → Lib.validGoD n l = true
  | 0, _, _ => rfl
  | n + 1, [], _ => by unfold Lib.validGoD; simp
  | n + 1, b :: l, h => by
    unfold Lib.validGoD
    rw [decodeL_dec]
    cases hr : isLD (decL (b :: l)).1
    · rw [runL_no b l hr] at h; simp at h
    · have hne : ¬ ((decL (b :: l)).1 = 65533) := by
        intro e; rw [e] at hr; exact absurd hr (by decide)
      have h2 : runL ((b :: l).drop (decL (b :: l)).2) = ((b :: l).drop (decL (b :: l)).2).length := by
        rw [runL_yes b l hr] at h
        have := dec_fits b l
        simp only [List.length_drop] at h ⊢
        omega
      have ih := valid_run n _ h2
      simp [hne, ih]
theorem valid_name (l : List UInt8) (h : runL l = l.length) : Lib.validD l = true := valid_run _ l h
set_option maxHeartbeats 1000000 in
theorem tname_c (s : ByteArray) (w : World) (h : Laid w) (hs : s.size ≤ 1073741824) : Calls Tryd.prog 35 #[.string s] w fun e w' => e = .returned (.bool (nameP (bl s))) ∧ Below w.heap.size w w' := by
  go_enter Tryd.func35, Tryd.ntmps35
  go_wp2
  go_loopw [3] (fun _ wr => ∃ pos : Nat, wr = w.iter s pos ∧ pos ≤ s.size ∧ Hid (runL (bl s) = pos + runL ((bl s).drop pos)) ∧ Hid (pos = 0 ∨ isLet (decL (bl s)).1 = true)) (fun _ wr => s.size - wr.iterPos w.heap.size)
  case atStart => exact ⟨0, rfl, by omega, Lib.hid (by simp), Lib.hid (.inl rfl)⟩
  case round =>
    obtain ⟨pos, rfl, hp, HR, HN⟩ := hrel
    by_cases hlt : pos < s.size
    · have hnx : ∀ ty, (Instr.next (.pointer (some ⟨w.heap.size, 0, none⟩)) true ty).run Tryd.prog (w.iter s pos) = _ := fun ty => run_next_any w s pos ty hlt
      rw [dec_bl s pos hlt] at hnx
      have hlt' : pos < (bl s).length := by rw [bl_len]; exact hlt
      have hst := dec_step hlt'
      rw [bl_len] at hst
      have hrs := Lib.hid (fun h => runL_at (bl s) pos hlt' h)
      have hno := Lib.hid (fun h => name_no hlt' HR.out h)
      have hno0 : Hid (pos = 0 → isLet (decL ((bl s).drop pos)).1 = false → nameP (bl s) = false) := Lib.hid (fun h0 h => by subst h0; exact name_no0 (by omega) h)
      have hfst : Hid (isLet (decL ((bl s).drop pos)).1 = true → (isLet (decL (bl s)).1 = true)) := Lib.hid (fun h => by
        rcases HN.out with h0 | h0
        · subst h0; simpa using h
        · exact h0)
      clear hlt'
      generalize hd : decL ((bl s).drop pos) = d at *
      obtain ⟨r, k⟩ := d
      have HD := Lib.hid hd
      clear hd
      simp only [] at hst hnx
      cases hL : isLet r
      · by_cases h0 : pos = 0
        · have hy := Lib.hid (hno0.out h0 hL)
          have h0' : ((pos : Int) == 0) = true := by simp [h0]
          clear hno0 hfst hno hrs HN h0
          go_wp2_with (first | (go_at_call 48; refine (letter_any _ _).mono ?_; rintro e w' ⟨rfl, rfl⟩))
          go_ret
          exact ⟨ret_bool (by rw [hy.out]), below_iter _ _ _⟩
        · have h0' : ((pos : Int) == 0) = false := by rw [beq_eq_false_iff_ne]; omega
          cases hD : isDig r
          · have hy := Lib.hid (hno.out (by simp [isLD, hD, hL]))
            clear hno0 hfst hno hrs HN h0
            go_wp2_with (first | (go_at_call 48; refine (letter_any _ _).mono ?_; rintro e w' ⟨rfl, rfl⟩) | (go_at_call 31; refine (digit_any _ _).mono ?_; rintro e w' ⟨rfl, rfl⟩))
            go_ret
            exact ⟨ret_bool (by rw [hy.out]), below_iter _ _ _⟩
          · have hy := Lib.hid (hrs.out (by simp [isLD, hD]))
            have hn : Hid (isLet (decL (bl s)).1 = true) := Lib.hid (by rcases HN.out with h | h; exact absurd h h0; exact h)
            clear hno0 hfst hno hrs HN h0
            go_wp2_with (first | (go_at_call 48; refine (letter_any _ _).mono ?_; rintro e w' ⟨rfl, rfl⟩) | (go_at_call 31; refine (digit_any _ _).mono ?_; rintro e w' ⟨rfl, rfl⟩))
            go_roundw
            case rel => exact ⟨pos + k, rfl, hst.2, Lib.hid (by rw [HR.out, hy.out]; omega), Lib.hid (.inr hn.out)⟩
            case measure => simp; omega
      · have hy := Lib.hid (hrs.out (by simp [isLD, hL]))
        have hn := Lib.hid (hfst.out hL)
        clear hno0 hfst hno hrs HN
        go_wp2_with (first | (go_at_call 48; refine (letter_any _ _).mono ?_; rintro e w' ⟨rfl, rfl⟩))
        go_roundw
        case rel => exact ⟨pos + k, rfl, hst.2, Lib.hid (by rw [HR.out, hy.out]; omega), Lib.hid (.inr hn.out)⟩
        case measure => simp; omega
    · have hnx : ∀ ty, (Instr.next (.pointer (some ⟨w.heap.size, 0, none⟩)) true ty).run Tryd.prog (w.iter s pos) = _ := fun ty => run_next_end w s pos ty hlt
      have he := name_end (l := bl s) (p := pos) (by rw [bl_len]; exact hlt) (by rw [bl_len]; exact hp) HR.out HN.out
      have hv : Lib.validD (bl s) = true := valid_name _ (by rw [HR.out, drop_end (by rw [bl_len]; exact hlt), runL_nil, bl_len]; omega)
      rw [bl_len] at he
      have hcall := valid_c s (w.iter s pos) (h.below (below_iter _ _ _)) hs
      rw [hv] at hcall
      have HC := Lib.hid hcall
      have HE := Lib.hid he
      have hB := below_iter w s pos
      clear he HN HR hv hcall
      by_cases h1 : s.size = 0
      · have e1 : s.toList = [] := by rw [toList_bl]; exact (bl_size0 s).2 h1
        go_wp2
        go_ret
        exact ⟨ret_bool (by rw [HE.out]; simp [h1]), hB⟩
      · have e1 : s.toList.isEmpty = false := by
          rw [toList_bl, List.isEmpty_eq_false_iff]; exact fun e => h1 ((bl_size0 s).1 e)
        by_cases h2 : s.size ≤ 64
        · have h2' : (s.size : Int) ≤ 64 := by omega
          go_wp2_with fail
          refine HC.out.mono ?_
          rintro e w1 ⟨rfl, hw⟩
          have hB2 := below_two hB hw
          clear hB hw HC
          go_wp2
          go_ret
          exact ⟨ret_bool (by rw [HE.out]; simp [h2]; omega), hB2⟩
        · have h2' : ¬ (s.size : Int) ≤ 64 := by omega
          go_wp2
          go_ret
          exact ⟨ret_bool (by rw [HE.out]; simp [h2]), hB⟩
theorem bl_append (a b : ByteArray) : bl (a ++ b) = bl a ++ bl b := by
  unfold bl; simp
theorem words_blank : ∀ z ∈ wordList, z.contains 32 = false := by decide
theorem isWord_blank (l : List UInt8) (h : l.contains 32 = true) : isWord l = false := by
  cases hw : isWord l with
  | false => rfl
  | true =>
    have := words_blank l (by simpa [isWord] using hw)
    rw [this] at h; cases h
theorem word_c (s : ByteArray) (w : World) (h : Laid w) (hs : s.size ≤ 1073741824) : Calls Tryd.prog 20 #[.string s] w fun e w' => e = .returned (.bool (isWord (bl s))) ∧ w = w' := by
  by_cases h1 : s.size = 0
  · have e1 : s.toList = [] := by rw [toList_bl]; exact (bl_size0 s).2 h1
    have hr : isWord (bl s) = false := by rw [(bl_size0 s).2 h1]; decide
    rw [hr]
    clear hr
    go_enter Tryd.func20, Tryd.ntmps20
    go_wp2
    go_ret
    exact ⟨rfl, rfl⟩
  · have e1 : s.toList.isEmpty = false := by
      rw [toList_bl, List.isEmpty_eq_false_iff]; exact fun e => h1 ((bl_size0 s).1 e)
    have hc := fun w => has1_c s 32 w
    cases hb : hasB (bl s) 32
    · have hr := word_of (bl s) (fun e => h1 ((bl_size0 s).1 e)) (by
        intro hm; have : (bl s).contains 32 = true := by rw [List.contains_iff_mem]; exact hm
        rw [show (bl s).contains 32 = false from hb] at this; cases this)
      rw [hb] at hc
      have HC := Lib.hid hc
      have HR := Lib.hid hr
      clear hc hr hb
      go_enter Tryd.func20, Tryd.ntmps20
      go_wp2_with fail
      refine (HC.out _).mono ?_
      rintro e w' ⟨rfl, rfl⟩
      go_wp2_with fail
      refine (has_c _ _ _ h (by decide)).mono ?_
      rintro e w' ⟨rfl, rfl⟩
      go_wp2
      go_ret
      exact ⟨ret_bool (by rw [← HR.out]; unfold hasL; rw [bl_append, bl_append]; rfl), rfl⟩
    · have hr := isWord_blank (bl s) hb
      rw [hr]
      rw [hb] at hc
      have HC := Lib.hid hc
      clear hc hr hb
      go_enter Tryd.func20, Tryd.ntmps20
      go_wp2_with fail
      refine (HC.out _).mono ?_
      rintro e w' ⟨rfl, rfl⟩
      go_wp2
      go_ret
      exact ⟨rfl, rfl⟩
theorem name_c (s : ByteArray) (w : World) (h : Laid w) (hs : s.size ≤ 1073741824) : Calls Tryd.prog 18 #[.string s] w fun e w' => e = .returned (.bool (nameP (bl s) && !isWord (bl s))) ∧ Below w.heap.size w w' := by
  have hc := tname_c s w h hs
  cases hn : nameP (bl s)
  · rw [hn] at hc
    have HC := Lib.hid hc
    clear hc hn
    go_enter Tryd.func18, Tryd.ntmps18
    go_wp2_with fail
    refine HC.out.mono ?_
    rintro e w1 ⟨rfl, hw⟩
    go_wp2
    go_ret
    exact ⟨rfl, hw⟩
  · rw [hn] at hc
    have HC := Lib.hid hc
    clear hc hn
    go_enter Tryd.func18, Tryd.ntmps18
    go_wp2_with fail
    refine HC.out.mono ?_
    rintro e w1 ⟨rfl, hw⟩
    go_wp2_with fail
    refine (word_c s _ (h.below hw) hs).mono ?_
    rintro e w' ⟨rfl, rfl⟩
    go_wp2
    go_ret
    exact ⟨ret_bool (by simp), hw⟩
theorem rname_c (s : ByteArray) (w : World) (hs : s.size ≤ 1073741824) : Calls Tryd.prog 19 #[.string s] w fun e w' => e = .returned (.bool (nameP (bl s) && !isWord (bl s))) ∧ Below w.heap.size w w' := by
  have hc := rname2_any s w hs
  cases hn : nameP (bl s)
  · rw [hn] at hc
    have HC := Lib.hid hc
    clear hc hn
    go_enter Tryd.func19, Tryd.ntmps19
    go_wp2_with fail
    refine HC.out.mono ?_
    rintro e w1 ⟨rfl, hw⟩
    go_wp2
    go_ret
    exact ⟨rfl, hw⟩
  · rw [hn] at hc
    have HC := Lib.hid hc
    clear hc hn
    go_enter Tryd.func19, Tryd.ntmps19
    go_wp2_with fail
    refine HC.out.mono ?_
    rintro e w1 ⟨rfl, hw⟩
    go_wp2_with fail
    refine (rword3_any s _).mono ?_
    rintro e w2 ⟨rfl, hw2⟩
    have hB := below_two hw hw2
    clear hw hw2
    go_wp2
    go_ret
    exact ⟨ret_bool (by simp [inP, isWord]), hB⟩
end Go.Proofs.YtihdjofihdgigaaDoor
