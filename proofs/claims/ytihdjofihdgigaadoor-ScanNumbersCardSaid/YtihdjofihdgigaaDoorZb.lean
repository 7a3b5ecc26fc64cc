/- The walk of the law ScanNumbers: it returns true for every input, where the listed variables hold what they are laid with. -/
import Derived.Test.YtihdjofihdgigaaDoorUm
import Derived.Test.YtihdjofihdgigaaDoorZc
import Derived.Test.YtihdjofihdgigaaDoorYd
namespace Go.Proofs.YtihdjofihdgigaaDoor
open Go.RowKit
set_option linter.unusedSimpArgs false
set_option linter.unusedVariables false

def emptyV : Value → Nat
  | .string s => if s.size = 0 then 1 else 0
  | _ => 0
def HexR (u m : Nat) (l : List UInt8) : Prop := (m = 0 ∧ l ≠ [] ∧ l = hexD u) ∨ ((m ≠ 0 ∨ l = []) ∧ hexD m ++ l = hexD u)
theorem hexR_step {u m : Nat} {l : List UInt8} (h : HexR u m l) (hg : m ≠ 0 ∨ l = []) : HexR u (m / 16) (hexc (m % 16) :: l) := by
  rcases h with ⟨h1, h2, -⟩ | ⟨-, h⟩
  · rcases hg with h3 | h3
    · exact absurd h1 h3
    · exact absurd h3 h2
  · by_cases h16 : m < 16
    · rw [hexD_one h16] at h
      refine .inl ⟨by omega, by simp, ?_⟩
      rw [Nat.mod_eq_of_lt h16]; exact h
    · rw [hexD_step h16, List.append_assoc] at h
      exact .inr ⟨.inl (by omega), h⟩
theorem hexR_len {u m : Nat} {l : List UInt8} (hu : u < 18446744073709551616) (h : HexR u m l) : l.length ≤ 16 := by
  have := hexD_len u hu
  rcases h with ⟨-, -, rfl⟩ | ⟨-, h⟩
  · exact this
  · rw [← h] at this; simp at this; omega
set_option maxRecDepth 100000 in
set_option maxHeartbeats 2000000 in
theorem walkScanNumbers (n : Int) (n0 : 0 ≤ n) (n1 : n ≤ 18446744073709551615) (w : World) (h : Laid w) :
    Calls Tryd.prog 6 #[.int .u64 n] w fun e w' => e = .returned (.bool true) ∧ Below w.heap.size w w' := by
  obtain ⟨u, rfl⟩ := Int.eq_ofNat_of_zero_le n0
  have hu : u < 18446744073709551616 := by omega
  have hT20 := dec_len u hu
  have hH16 := hexD_len u hu
  have C1 := Lib.hid (fun w1 => rdigits_any false u hu w1)
  have sT : (⟨(Lib.decDigits u).toArray⟩ : ByteArray).size ≤ 20 := by show (Lib.decDigits u).toArray.size ≤ 20; simpa using hT20
  have sH : (⟨(hexD u).toArray⟩ : ByteArray).size ≤ 16 := by show (hexD u).toArray.size ≤ 16; simpa using hH16
  have b2 : bl (⟨#[48, 120]⟩ ++ ⟨(hexD u).toArray⟩) = 48 :: 120 :: hexD u := by simp [bl]
  have b3 : bl (⟨#[48]⟩ ++ ⟨(Lib.decDigits u).toArray⟩) = 48 :: Lib.decDigits u := by simp [bl]
  have b4 : bl (⟨(Lib.decDigits u).toArray⟩ ++ ⟨#[122]⟩) = Lib.decDigits u ++ [122] := by simp [bl]
  have z2 : (⟨#[48, 120]⟩ ++ ⟨(hexD u).toArray⟩ : ByteArray).size ≤ 1073741824 := by rw [← bl_len, b2]; simp; omega
  have z3 : (⟨#[48]⟩ ++ ⟨(Lib.decDigits u).toArray⟩ : ByteArray).size ≤ 1073741824 := by rw [← bl_len, b3]; simp; omega
  have z4 : (⟨(Lib.decDigits u).toArray⟩ ++ ⟨#[122]⟩ : ByteArray).size ≤ 1073741824 := by rw [← bl_len, b4]; simp; omega
  have C2 := fun w1 h1 => number_c ⟨(Lib.decDigits u).toArray⟩ w1 h1 (by omega)
  rw [bl_mk, num_tens u hu] at C2
  have C3 := fun w1 h1 => number_c (⟨#[48, 120]⟩ ++ ⟨(hexD u).toArray⟩) w1 h1 z2
  rw [b2, num_hexs u hu] at C3
  have C4 := fun w1 h1 => number_c (⟨#[48]⟩ ++ ⟨(Lib.decDigits u).toArray⟩) w1 h1 z3
  rw [b3, num_zeroten u] at C4
  have C5 := fun w1 h1 => number_c (⟨(Lib.decDigits u).toArray⟩ ++ ⟨#[122]⟩) w1 h1 z4
  rw [b4, num_tenz u] at C5
  have C6 := fun w1 h1 => tokens_c ⟨(Lib.decDigits u).toArray⟩ w1 h1 (by unfold maxLen; omega)
  rw [bl_mk, tokens_tens u hu] at C6
  have D2 := Lib.hid C2
  have D3 := Lib.hid C3
  have D4 := Lib.hid C4
  have D5 := Lib.hid C5
  have D6 := Lib.hid C6
  have D7 := Lib.hid (fun w1 h1 => answers_c w1 h1)
  have HU := Lib.hid hu
  have hst : Hid (HexR u u []) := Lib.hid (.inr ⟨.inr rfl, by simp⟩)
  rw [show digsK false u = Lib.decDigits u from rfl] at C1
  clear C2 C3 C4 C5 C6 b2 b3 b4 z2 z3 z4 hT20 hH16 n0 n1 hu
  go_enter Tryd.func6, Tryd.ntmps6
  go_wp2_with fail
  refine (C1.out w).mono ?_
  rintro e w1 ⟨rfl, hw1⟩
  have hl1 := h.below hw1
  clear C1
  go_wp2
  go_loopw [4, 5] (fun s k wr => ∃ m l, s = .string ⟨l.toArray⟩ ∧ k = .int .u64 (m : Nat) ∧ m < 18446744073709551616 ∧ Hid (HexR u m l) ∧ wr = w1) (fun s k _ => 2 * (intOf k).toNat + emptyV s)
  case atStart => exact ⟨u, [], rfl, rfl, HU.out, hst, rfl⟩
  case round =>
    obtain ⟨m, l, rfl, rfl, hm, hR, rfl⟩ := hrel
    by_cases hx : m = 0 ∧ l ≠ []
    · obtain ⟨rfl, hne⟩ := hx
      have hl : l = hexD u := by
        rcases hR.out with ⟨-, -, h⟩ | ⟨h1, h⟩
        · exact h
        · rcases h1 with h1 | h1
          · exact absurd rfl h1
          · exact absurd h1 hne
      have he : l.isEmpty = false := by simpa using hne
      rw [← hl] at sH D3
      clear hR hl hne hm
      have HSH := Lib.hid sH
      clear sH
      have hz : l.length ≤ 16 := by have h1 : l.toArray.size ≤ 16 := HSH.out; simpa using h1
      clear HSH
      generalize Lib.decDigits u = T at *
      have hzT : T.length ≤ 20 := by have h1 : T.toArray.size ≤ 20 := sT; simpa using h1
      clear sT
      go_wp2_with fail
      refine (D2.out _ hl1).mono ?_
      rintro e w2 ⟨rfl, hw2⟩
      have hl2 := hl1.below hw2
      have hB2 := below_two hw1 hw2
      clear hw2 hw1 hl1 D2
      go_wp2_with fail
      refine (D3.out _ hl2).mono ?_
      rintro e w3 ⟨rfl, hw3⟩
      have hl3 := hl2.below hw3
      have hB3 := below_two hB2 hw3
      clear hw3 hB2 hl2 D3
      go_wp2_with fail
      refine (D4.out _ hl3).mono ?_
      rintro e w4 ⟨rfl, hw4⟩
      have hl4 := hl3.below hw4
      have hB4 := below_two hB3 hw4
      clear hw4 hB3 hl3 D4
      go_wp2_with fail
      refine (D5.out _ hl4).mono ?_
      rintro e w5 ⟨rfl, hw5⟩
      have hl5 := hl4.below hw5
      have hB5 := below_two hB4 hw5
      clear hw5 hB4 hl4 D5
      go_wp2_with fail
      refine (D6.out _ hl5).mono ?_
      rintro e w6 ⟨⟨v, rfl, hown, -⟩, hw6⟩
      have hl6 := hl5.below hw6
      have hB6 := below_two hB5 hw6
      clear hw6 hB5 hl5 D6
      go_wp2_with fail
      refine (D7.out _ hl6).mono ?_
      rintro e w7 ⟨rfl, hw7⟩
      have hown7 := ownsRow_below hown hw7
      have hB7 := below_two hB6 hw7
      clear hw7 hB6 hl6 D7 hown
      obtain ⟨g, cap, rfl, -, -, hc⟩ := own_cells hown7 (by simp)
      have c0 := (hc 0 (by simp)).1
      have c1 := (hc 0 (by simp)).2.1
      have c2 := (hc 0 (by simp)).2.2.1
      have c3 := (hc 0 (by simp)).2.2.2
      simp only [List.getElem_cons_zero, Nat.zero_mul, Nat.zero_add] at c0 c1 c2 c3
      clear hc hown7
      go_wp2
      go_ret
      exact ⟨rfl, hB7⟩
    · have hg : m ≠ 0 ∨ l = [] := by
        by_cases h0 : m = 0
        · exact .inr (Classical.byContradiction fun h1 => hx ⟨h0, h1⟩)
        · exact .inl h0
      have hz := hexR_len HU.out hR.out
      have HR2 := Lib.hid (hexR_step hR.out hg)
      have HST := Lib.hid (fun b => str_cons b l)
      obtain ⟨k, hk⟩ : ∃ k, k = m % 16 := ⟨_, rfl⟩
      have hk16 : k < 16 := by omega
      have hext := hexc_in ⟨k, hk16⟩
      simp only [] at hext
      rw [← hk] at HR2
      have hkn : ((m : Int) % 16) = (k : Int) := by omega
      have hn1 : ((k : Int) + 1).toNat = k + 1 := by omega
      have hwq : IntKind.u64.wrap ((m : Int) / 16) = (m : Int) / 16 := by rw [IntKind.wrap_u64]; omega
      have HM := Lib.hid hm
      have HK := Lib.hid hk
      clear hx hR hk D2 D3 D4 D5 D6 D7 sT sH hm
      generalize hexc k = c at *
      by_cases h0 : m = 0
      · have hl : l = [] := by rcases hg with h | h; exact absurd h0 h; exact h
        subst hl
        subst h0
        clear hg
        go_wp2
        have hk0 : k = 0 := by have := HK.out; omega
        rw [hk0] at hext
        exact ⟨⟨0 / 16, c :: [], by rw [← HST.out, ← hext], by go_num, by omega, HR2, trivial⟩, by
          rw [show (0 + 1 : Nat) = 1 from rfl] at hext
          rw [hext]
          have e1 : emptyV (.string (⟨#[c]⟩ ++ ⟨#[]⟩)) = 0 := by rw [HST.out]; rfl
          have e2 : emptyV (.string ⟨#[]⟩) = 1 := rfl
          simp [intOf, e1, e2]⟩
      · have hp : (0 : Int) < (m : Int) := by omega
        clear hg h0
        go_wp2
        exact ⟨⟨m / 16, c :: l, by rw [← HST.out], by go_num, by have := HM.out; omega, HR2, trivial⟩, by
          have h1 : ∀ x : Value, emptyV x ≤ 1 := by intro x; unfold emptyV; split; split <;> omega; omega
          have h2 := h1 (.string (⟨#[c]⟩ ++ ⟨l.toArray⟩))
          simp [intOf]; omega⟩
end Go.Proofs.YtihdjofihdgigaaDoor
