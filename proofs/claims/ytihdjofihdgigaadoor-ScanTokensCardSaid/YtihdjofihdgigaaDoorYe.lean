/- The walk of the law ScanStands; and of its own 'empty'. -/
import Derived.Test.YtihdjofihdgigaaDoorUm
import Derived.Test.YtihdjofihdgigaaDoorTj
namespace Go.Proofs.YtihdjofihdgigaaDoor
open Go.RowKit
set_option linter.unusedSimpArgs false
set_option linter.unusedVariables false

theorem drop_at (s : ByteArray) (j : Nat) (h : j < s.size) : (bl s).drop j = s[j] :: (bl s).drop (j + 1) := by
  have hl : j < (bl s).length := by rw [bl_len]; exact h
  rw [List.drop_eq_getElem_cons hl]
  rfl
theorem byte_is (b c : UInt8) (n : Int) (hn : (c.toNat : Int) = n) : (((b.toNat : Nat) : Int) == n) = (b == c) := by
  rw [← hn, Bool.eq_iff_iff, beq_iff_eq, beq_iff_eq]
  constructor
  · intro h
    exact UInt8.toNat_inj.1 (by omega)
  · rintro rfl
    rfl
set_option maxRecDepth 100000 in
set_option maxHeartbeats 1000000 in
theorem empty_c (s : ByteArray) (hs : s.size ≤ maxLen) (w : World) (h : (runE false (bl s)).isSome = true) : Calls Tryd.prog 14 #[.string s] w fun e w' => e = .returned (.bool true) ∧ w = w' := by
  unfold maxLen at hs
  go_enter Tryd.func14, Tryd.ntmps14
  go_wp2
  go_loopw [3, 4] (fun r i wr => ∃ (q : Bool) (j : Nat), r = .bool q ∧ i = .int .i64 j ∧ j ≤ s.size ∧ Hid ((runE q ((bl s).drop j)).isSome = true) ∧ wr = w) (fun _ i _ => s.size - (intOf i).toNat)
  case atStart => exact ⟨false, 0, rfl, rfl, Nat.zero_le _, Lib.hid h, rfl⟩
  case round =>
    obtain ⟨q, j, rfl, rfl, hj, hq, rfl⟩ := hrel
    by_cases hlt : j < s.size
    · have h1 := hq.out
      rw [drop_at s j hlt, runE_cons] at h1
      have t10 := byte_is s[j] 10 10 (by decide)
      have t9 := byte_is s[j] 9 9 (by decide)
      have t13 := byte_is s[j] 13 13 (by decide)
      have t32 := byte_is s[j] 32 32 (by decide)
      have t47 := byte_is s[j] 47 47 (by decide)
      have hlt1 : (j : Int) < (s.size : Int) := by omega
      clear hq
      cases b10 : (s[j] == 10) with
      | true =>
        rw [b10] at t10
        rw [b10] at h1
        have H1 := Lib.hid (show (runE false ((bl s).drop (j + 1))).isSome = true from h1)
        clear h1 t9 t13 t32 t47 b10
        go_wp2
        exact ⟨⟨false, j + 1, rfl, by go_num, hlt, H1, trivial⟩, by simp [intOf]; omega⟩
      | false =>
        rw [b10] at t10
        rw [b10] at h1
        simp only [Bool.false_eq_true, if_false] at h1
        cases q with
        | true =>
          have H1 := Lib.hid (show (runE true ((bl s).drop (j + 1))).isSome = true from h1)
          clear h1 t9 t13 t32 t47 b10
          go_wp2
          exact ⟨⟨true, j + 1, rfl, by go_num, hlt, H1, trivial⟩, by simp [intOf]; omega⟩
        | false =>
          cases hb : isBlank s[j] with
          | true =>
            rw [hb] at h1
            have H1 := Lib.hid (show (runE false ((bl s).drop (j + 1))).isSome = true from h1)
            have hb3 : (s[j] == 9) = true ∨ ((s[j] == 9) = false ∧ (s[j] == 13) = true) ∨ ((s[j] == 9) = false ∧ (s[j] == 13) = false ∧ (s[j] == 32) = true) := by
              unfold isBlank at hb
              cases x : (s[j] == 9) <;> cases y : (s[j] == 13) <;> simp_all
            clear h1 t47 b10 hb
            rcases hb3 with b | ⟨b, b'⟩ | ⟨b, b', b''⟩
            · rw [b] at t9
              clear t13 t32 b
              go_wp2
              all_goals exact ⟨⟨false, j + 1, rfl, by go_num, hlt, H1, trivial⟩, by simp [intOf]; omega⟩
            · rw [b] at t9
              rw [b'] at t13
              clear t32 b b'
              go_wp2
              all_goals exact ⟨⟨false, j + 1, rfl, by go_num, hlt, H1, trivial⟩, by simp [intOf]; omega⟩
            · rw [b] at t9
              rw [b'] at t13
              rw [b''] at t32
              clear b b' b''
              go_wp2
              all_goals exact ⟨⟨false, j + 1, rfl, by go_num, hlt, H1, trivial⟩, by simp [intOf]; omega⟩
          | false =>
            rw [hb] at h1
            simp only [Bool.false_or, Bool.false_eq_true, if_false] at h1
            have hx : (s[j] == 9) = false ∧ (s[j] == 13) = false ∧ (s[j] == 32) = false := by
              unfold isBlank at hb
              cases x : (s[j] == 9) <;> cases y : (s[j] == 13) <;> simp_all
            rw [hx.1] at t9
            rw [hx.2.1] at t13
            rw [hx.2.2] at t32
            split at h1
            · rename_i hc
              simp only [Bool.and_eq_true, beq_iff_eq] at hc
              obtain ⟨hc1, hc2⟩ := hc
              have hlt2 : j + 1 < s.size := by
                rcases Nat.lt_or_ge (j + 1) s.size with h | h
                · exact h
                · rw [List.drop_eq_nil_of_le (by rw [bl_len]; exact h)] at hc2; cases hc2
              rw [drop_at s (j + 1) hlt2] at hc2
              have hc3 : s[j + 1] = 47 := by simpa using hc2
              have t47b : (((s[j + 1]).toNat : Int) == 47) = true := by rw [byte_is s[j + 1] 47 47 (by decide)]; simp [hc3]
              have t47c : (((s[j]).toNat : Int) == 47) = true := by rw [byte_is s[j] 47 47 (by decide)]; simp [hc1]
              clear t47
              have H1 := Lib.hid (show (runE true ((bl s).drop (j + 1))).isSome = true from h1)
              have hlt3 : decide ((j : Int) + 1 < (s.size : Int)) = true := decide_eq_true (by omega)
              clear h1 hc1 hc2 hc3 hx hb b10
              go_wp2
              exact ⟨⟨true, j + 1, rfl, by go_num, hlt, H1, trivial⟩, by simp [intOf]; omega⟩
            · cases h1
    · obtain rfl : j = s.size := by omega
      go_wp2
      go_ret
      exact ⟨rfl, rfl⟩
end Go.Proofs.YtihdjofihdgigaaDoor
