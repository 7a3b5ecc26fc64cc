/- Contracts of the reference's value, in, Word, sign: what each returns, and that memory stays. -/
import Derived.Test.YtihdjofihdgigaaDoorVb
import Derived.Test.YtihdjofihdgigaaDoorTd
namespace Go.Proofs.YtihdjofihdgigaaDoor
open Go.RowKit
set_option linter.unusedSimpArgs false
set_option linter.unusedVariables false

def digI (hex : Bool) (c : UInt8) : Int := match digVal hex c with | some d => d | none => -1
theorem rvalue10_any (c : UInt8) (w : World) : Calls Tryd.prog 34 #[.int .u8 (c.toNat : Int), .int .u64 10] w fun e w' => e = .returned (.int .i64 (digI false c)) ∧ w = w' := by
  have hc := c.toNat_lt
  by_cases h : 48 ≤ c.toNat ∧ c.toNat ≤ 57
  · have e : digI false c = (c.toNat : Int) - 48 := by simp [digI, digVal, h]; omega
    obtain ⟨h1, h2⟩ := h
    have HE := Lib.hid e
    clear e
    go_enter Tryd.func34, Tryd.ntmps34
    go_wp2
    go_ret; exact ⟨ret_u64 HE.out.symm, rfl⟩
  · have e : digI false c = -1 := by simp [digI, digVal, h]
    have h1 : (c.toNat : Int) < 48 ∨ 57 < (c.toNat : Int) := by omega
    have HE := Lib.hid e
    clear e h
    rcases h1 with h1 | h1
    all_goals
      go_enter Tryd.func34, Tryd.ntmps34
      go_wp2
      go_ret; exact ⟨ret_u64 HE.out.symm, rfl⟩
theorem rvalue16_any (c : UInt8) (w : World) : Calls Tryd.prog 34 #[.int .u8 (c.toNat : Int), .int .u64 16] w fun e w' => e = .returned (.int .i64 (digI true c)) ∧ w = w' := by
  have hc := c.toNat_lt
  obtain ⟨x, hx⟩ : ∃ x : Int, x = (c.toNat : Int) := ⟨_, rfl⟩
  have hx0 : 0 ≤ x := by omega
  have hx1 : x < 256 := by omega
  have e : digI true c = if 48 ≤ x ∧ x ≤ 57 then x - 48 else if 97 ≤ x ∧ x ≤ 102 then x - 87 else if 65 ≤ x ∧ x ≤ 70 then x - 55 else -1 := by
    subst hx
    by_cases h1 : 48 ≤ c.toNat ∧ c.toNat ≤ 57
    · have : digVal true c = some (c.toNat - 48) := by unfold digVal; rw [if_pos h1]
      rw [if_pos (by omega), digI, this]; simp only []; omega
    · by_cases h2 : 97 ≤ c.toNat ∧ c.toNat ≤ 102
      · have : digVal true c = some (c.toNat - 87) := by unfold digVal; rw [if_neg h1, if_pos (by simpa using h2)]
        rw [if_neg (by omega), if_pos (by omega), digI, this]; simp only []; omega
      · by_cases h3 : 65 ≤ c.toNat ∧ c.toNat ≤ 70
        · have : digVal true c = some (c.toNat - 55) := by unfold digVal; rw [if_neg h1, if_neg (by simpa using h2), if_pos (by simpa using h3)]
          rw [if_neg (by omega), if_neg (by omega), if_pos (by omega), digI, this]; simp only []; omega
        · have : digVal true c = none := by unfold digVal; rw [if_neg h1, if_neg (by simpa using h2), if_neg (by simpa using h3)]
          rw [if_neg (by omega), if_neg (by omega), if_neg (by omega), digI, this]
  have HE := Lib.hid e
  rw [← hx]
  clear e hx hc
  by_cases h1 : x < 48
  · go_enter Tryd.func34, Tryd.ntmps34
    go_wp2
    go_ret; exact ⟨ret_u64 (by rw [HE.out, if_neg (by omega), if_neg (by omega), if_neg (by omega)]), rfl⟩
  · by_cases h2 : x ≤ 57
    · go_enter Tryd.func34, Tryd.ntmps34
      go_wp2
      go_ret; exact ⟨ret_u64 (by rw [HE.out, if_pos (by omega)]), rfl⟩
    · by_cases h3 : x < 97
      · by_cases h4 : x < 65
        · go_enter Tryd.func34, Tryd.ntmps34
          go_wp2
          go_ret; exact ⟨ret_u64 (by rw [HE.out, if_neg (by omega), if_neg (by omega), if_neg (by omega)]), rfl⟩
        · by_cases h5 : x ≤ 70
          · go_enter Tryd.func34, Tryd.ntmps34
            go_wp2
            go_ret; exact ⟨ret_u64 (by rw [HE.out, if_neg (by omega), if_neg (by omega), if_pos (by omega)]; omega), rfl⟩
          · go_enter Tryd.func34, Tryd.ntmps34
            go_wp2
            go_ret; exact ⟨ret_u64 (by rw [HE.out, if_neg (by omega), if_neg (by omega), if_neg (by omega)]), rfl⟩
      · by_cases h4 : x ≤ 102
        · go_enter Tryd.func34, Tryd.ntmps34
          go_wp2
          go_ret; exact ⟨ret_u64 (by rw [HE.out, if_neg (by omega), if_pos (by omega)]; omega), rfl⟩
        · go_enter Tryd.func34, Tryd.ntmps34
          go_wp2
          go_ret; exact ⟨ret_u64 (by rw [HE.out, if_neg (by omega), if_neg (by omega), if_neg (by omega)]), rfl⟩
/-- a list of texts in memory -/
def strV (z : List UInt8) : Value := .string ⟨z.toArray⟩
def inP (zs : List (List UInt8)) (s : ByteArray) : Bool := zs.contains (bl s)
theorem rin_any (zs : List (List UInt8)) (s : ByteArray) (b c : Nat) (w : World) (hn : zs.length ≤ 1000) (hb : ∀ j (h : j < zs.length), w.cell? ⟨b, j, none⟩ = some (.string ⟨(zs[j]).toArray⟩)) :
    Calls Tryd.prog 38 #[.slice (some ⟨b, 0, none⟩) zs.length c, .string s] w fun e w' => e = .returned (.bool (inP zs s)) ∧ w = w' := by
  go_enter Tryd.func38, Tryd.ntmps38
  go_wp2
  go_loop [5] (fun i => ∃ k : Nat, k ≤ zs.length ∧ i = .int .i64 k ∧ Hid (∀ j (h : j < zs.length), j < k → zs[j] ≠ bl s)) (fun i => zs.length - (intOf i).toNat)
  case atStart => exact ⟨0, by omega, rfl, Lib.hid (fun j _ h => absurd h (by omega))⟩
  case round =>
    obtain ⟨k, hk, rfl, HK⟩ := hrel
    by_cases hlt : k < zs.length
    · have hcell := hb k hlt
      have hlt2 : (k : Int) < (zs.length : Int) := by omega
      clear hb
      by_cases he : zs[k] = bl s
      · have hr : inP zs s = true := by unfold inP; rw [List.contains_iff_mem, ← he]; exact List.getElem_mem hlt
        have hq : (zs[k] == s.toList) = true := by rw [toList_bl, he]; simp
        have HR := Lib.hid hr
        clear hr he
        generalize zs[k] = z at *
        go_wp2
        go_ret
        exact ⟨ret_bool HR.out.symm, rfl⟩
      · have hq : (zs[k] == s.toList) = false := by rw [toList_bl]; simpa using he
        have HK2 : Hid (∀ j (h : j < zs.length), j < k + 1 → zs[j] ≠ bl s) := Lib.hid (fun j h hj => by
          by_cases hjk : j = k
          · subst hjk; exact he
          · exact HK.out j h (by omega))
        clear he
        generalize zs[k] = z at *
        go_wp2
        exact ⟨⟨k + 1, by omega, by go_num, HK2⟩, by simp [intOf]; omega⟩
    · have hr : inP zs s = false := by
        unfold inP
        cases hc : zs.contains (bl s) with
        | false => rfl
        | true =>
          rw [List.contains_iff_mem] at hc
          obtain ⟨j, hj, e⟩ := List.getElem_of_mem hc
          exact absurd e (HK.out j hj (by omega))
      have HR := Lib.hid hr
      clear hr hb
      have hge : ¬ (k : Int) < (zs.length : Int) := by omega
      go_wp2
      go_ret
      exact ⟨ret_bool HR.out.symm, rfl⟩
/-- the cells of a list of texts that was just laid -/
theorem cell_strs (zs : List (List UInt8)) (w : World) (C : Array Value) (t : TypeId) (hC : C = (zs.map fun z => Value.string ⟨z.toArray⟩).toArray) (j : Nat) (h : j < zs.length) :
    (w.alloc (.cells C t)).cell? ⟨w.heap.size, j, none⟩ = some (.string ⟨(zs[j]).toArray⟩) := by
  rw [World.cell?_alloc_new, hC]
  simp [h]
theorem rword3_any (s : ByteArray) (w : World) : Calls Tryd.prog 21 #[.string s] w fun e w' => e = .returned (.bool (inP wordList s)) ∧ Below w.heap.size w w' := by
  go_enter Tryd.func21, Tryd.ntmps21
  go_wp2_with fail
  refine (rin_any wordList s _ _ _ (by decide) (fun j h => cell_strs wordList w _ _ rfl j h)).mono ?_
  rintro e w' ⟨rfl, rfl⟩
  go_wp2
  go_ret
  exact ⟨rfl, (Below.refl _ _).alloc (Nat.le_refl _) _⟩
end Go.Proofs.YtihdjofihdgigaaDoor
