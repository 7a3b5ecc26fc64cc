/- Plain functions for the tokens of a text: characters, names, words, numbers. No program in sight. -/
import Derived.Laws.RangeAny
import Derived.Lib.IndexMore
import Derived.Lib.Hide
namespace Go.Proofs.YtakfgbedmglffaaGreatDoor
set_option linter.unusedSimpArgs false
set_option linter.unusedVariables false

/-! ### the first character of a text -/
def decL (l : List UInt8) : Nat × Nat := Utf8.decode ⟨l.toArray⟩ 0
theorem dec_drop (l : List UInt8) (i : Nat) (h : i < l.length) : Utf8.decode ⟨l.toArray⟩ i = decL (l.drop i) := by
  have g : ∀ k, (⟨l.toArray⟩ : ByteArray).get! (i + k) = (⟨(l.drop i).toArray⟩ : ByteArray).get! (0 + k) := by
    intro k
    show l.toArray[i + k]! = (l.drop i).toArray[0 + k]!
    simp [getElem!_def]
  have c : ∀ k, (i + k < (⟨l.toArray⟩ : ByteArray).size) = (0 + k < (⟨(l.drop i).toArray⟩ : ByteArray).size) := by
    intro k
    show (i + k < l.toArray.size) = (0 + k < (l.drop i).toArray.size)
    simp
    omega
  unfold decL Utf8.decode
  simp only [g, c]
theorem get_zero (b : UInt8) (l : List UInt8) : ((⟨(b :: l).toArray⟩ : ByteArray).get! (0 + 0)) = b := by
  show (b :: l).toArray[0 + 0]! = b
  simp
theorem dec_ascii (b : UInt8) (l : List UInt8) (h : b.toNat < 128) : decL (b :: l) = (b.toNat, 1) := by
  unfold decL Utf8.decode
  simp only [get_zero, h, if_true]
theorem dec_high (b : UInt8) (l : List UInt8) (h : 128 ≤ b.toNat) : 128 ≤ (decL (b :: l)).1 ∧ 1 ≤ (decL (b :: l)).2 := by
  have hn : ¬ b.toNat < 128 := by omega
  unfold decL
  simp only [Utf8.decode, get_zero, hn, if_false]
  repeat' split
  all_goals simp_all [Utf8.runeError]
  all_goals omega
theorem dec_le (l : List UInt8) : (decL l).1 ≤ 2147483647 := Go.decode_le _ _
theorem dec_pos (b : UInt8) (l : List UInt8) : 1 ≤ (decL (b :: l)).2 := by
  by_cases h : b.toNat < 128
  · rw [dec_ascii b l h]; exact Nat.le_refl _
  · exact (dec_high b l (by omega)).2
theorem dec_fits (b : UInt8) (l : List UInt8) : (decL (b :: l)).2 ≤ (b :: l).length := by
  unfold decL
  have hs : (⟨(b :: l).toArray⟩ : ByteArray).size = l.length + 1 := by show (b :: l).toArray.size = _; simp
  simp only [Utf8.decode, hs]
  repeat' split
  all_goals simp_all
  all_goals omega
/-- a character below 128 is its one byte -/
theorem dec_small (b : UInt8) (l : List UInt8) (h : (decL (b :: l)).1 < 128) : b.toNat < 128 ∧ (decL (b :: l)).1 = b.toNat ∧ (decL (b :: l)).2 = 1 := by
  by_cases hb : b.toNat < 128
  · rw [dec_ascii b l hb]; exact ⟨hb, rfl, rfl⟩
  · have := (dec_high b l (by omega)).1; omega

/-! ### letters and digits -/
def isLet (r : Int) : Bool := (decide (65 ≤ r) && decide (r ≤ 90)) || (decide (97 ≤ r) && decide (r ≤ 122)) || r == 95 || (decide (192 ≤ r) && decide (r ≤ 591) && r != 215 && r != 247)
def isDig (r : Int) : Bool := decide (48 ≤ r) && decide (r ≤ 57)
def isLD (r : Int) : Bool := isLet r || isDig r
theorem let_not_dig {r : Int} (h : isLet r = true) : isDig r = false := by
  cases hd : isDig r with
  | false => rfl
  | true =>
    simp [isLet, isDig] at h hd
    omega

theorem drop_dec (b : UInt8) (l : List UInt8) : (b :: l).drop (decL (b :: l)).2 = l.drop ((decL (b :: l)).2 - 1) := by
  have h := dec_pos b l
  obtain ⟨k, hk⟩ : ∃ k, (decL (b :: l)).2 = k + 1 := ⟨(decL (b :: l)).2 - 1, by omega⟩
  rw [hk]; rfl
/-- how many bytes of letters and digits a text begins with -/
def runL : List UInt8 → Nat
  | [] => 0
  | b :: l => if isLD (decL (b :: l)).1 then (decL (b :: l)).2 + runL (l.drop ((decL (b :: l)).2 - 1)) else 0
termination_by l => l.length
decreasing_by simp; omega
theorem runL_nil : runL [] = 0 := by rw [runL]
theorem runL_yes (b : UInt8) (l : List UInt8) (h : isLD (decL (b :: l)).1 = true) : runL (b :: l) = (decL (b :: l)).2 + runL ((b :: l).drop (decL (b :: l)).2) := by
  rw [runL, if_pos h, drop_dec]
theorem runL_no (b : UInt8) (l : List UInt8) (h : isLD (decL (b :: l)).1 = false) : runL (b :: l) = 0 := by
  rw [runL, h]; rfl
theorem runL_le : ∀ (n : Nat) (l : List UInt8), l.length ≤ n → runL l ≤ l.length
  | _, [], _ => by rw [runL_nil]; exact Nat.le_refl _
  | 0, b :: l, h => by simp at h
  | n + 1, b :: l, h => by
    cases hr : isLD (decL (b :: l)).1
    · rw [runL_no b l hr]; exact Nat.zero_le _
    · have hp := dec_pos b l
      have hf := dec_fits b l
      rw [runL_yes b l hr]
      have ih := runL_le n ((b :: l).drop (decL (b :: l)).2) (by simp at h ⊢; omega)
      simp at ih hf ⊢
      omega
theorem runL_bd (l : List UInt8) : runL l ≤ l.length := runL_le _ l (Nat.le_refl _)
/-- the same, from a place on -/
theorem runL_at (l : List UInt8) (p : Nat) (h : p < l.length) : isLD (decL (l.drop p)).1 = true → runL (l.drop p) = (decL (l.drop p)).2 + runL (l.drop (p + (decL (l.drop p)).2)) := by
  intro hr
  obtain ⟨b, m, hm⟩ : ∃ b m, l.drop p = b :: m := by
    cases hd : l.drop p with
    | nil => simp at hd; omega
    | cons b m => exact ⟨b, m, rfl⟩
  rw [hm] at hr
  rw [hm, runL_yes b m hr, ← hm, List.drop_drop]

/-- how many bytes belong to characters, from the beginning on -/
def broken (l : List UInt8) : Bool := (decL l).1 == 65533 && decide ((decL l).2 < 2)
def wholeL : List UInt8 → Nat
  | [] => 0
  | b :: l => if broken (b :: l) then 0 else (decL (b :: l)).2 + wholeL (l.drop ((decL (b :: l)).2 - 1))
termination_by l => l.length
decreasing_by simp; omega
theorem wholeL_nil : wholeL [] = 0 := by rw [wholeL]
theorem wholeL_no (b : UInt8) (l : List UInt8) (h : broken (b :: l) = true) : wholeL (b :: l) = 0 := by rw [wholeL, if_pos h]
theorem wholeL_yes (b : UInt8) (l : List UInt8) (h : broken (b :: l) = false) : wholeL (b :: l) = (decL (b :: l)).2 + wholeL ((b :: l).drop (decL (b :: l)).2) := by
  rw [wholeL, h, drop_dec]; rfl
theorem wholeL_le : ∀ (n : Nat) (l : List UInt8), l.length ≤ n → wholeL l ≤ l.length
  | _, [], _ => by rw [wholeL_nil]; exact Nat.le_refl _
  | 0, b :: l, h => by simp at h
  | n + 1, b :: l, h => by
    cases hr : broken (b :: l)
    · have hp := dec_pos b l
      have hf := dec_fits b l
      rw [wholeL_yes b l hr]
      have ih := wholeL_le n ((b :: l).drop (decL (b :: l)).2) (by simp at h ⊢; omega)
      simp at ih hf ⊢
      omega
    · rw [wholeL_no b l hr]; exact Nat.zero_le _
theorem wholeL_bd (l : List UInt8) : wholeL l ≤ l.length := wholeL_le _ l (Nat.le_refl _)
/-- the reference's test of a character that is none -/
theorem get_succ (b : UInt8) (l : List UInt8) (k : Nat) (h : k < l.length) : ((⟨(b :: l).toArray⟩ : ByteArray).get! (0 + (k + 1))) = l[k] := by
  show (b :: l).toArray[0 + (k + 1)]! = l[k]
  simp [getElem!_def, h]
theorem size_cons (b : UInt8) (l : List UInt8) : (⟨(b :: l).toArray⟩ : ByteArray).size = l.length + 1 := by show (b :: l).toArray.size = _; simp
theorem broken_ref (b : UInt8) (l : List UInt8) (h : (decL (b :: l)).1 = 65533) : broken (b :: l) = decide ((b :: l).take 3 ≠ [239, 191, 189]) := by
  have e : broken (b :: l) = decide ((decL (b :: l)).2 < 2) := by unfold broken; rw [h]; simp
  rw [e]
  by_cases ht : (b :: l).take 3 = [239, 191, 189]
  · obtain ⟨rfl, m, rfl⟩ : b = 239 ∧ ∃ m, l = 191 :: 189 :: m := by
      match l, ht with
      | c :: d :: m, ht => simp at ht; exact ⟨ht.1, m, by rw [ht.2.1, ht.2.2]⟩
      | [c], ht => simp at ht
      | [], ht => simp at ht
    have e1 := get_succ 239 (191 :: 189 :: m) 0 (by simp)
    have e2 := get_succ 239 (191 :: 189 :: m) 1 (by simp)
    simp only [List.getElem_cons_zero, List.getElem_cons_succ] at e1 e2
    have hs := size_cons 239 (191 :: 189 :: m)
    have hd : (decL (239 :: 191 :: 189 :: m)).2 = 3 := by
      unfold decL
      simp only [Utf8.decode, get_zero, e1, e2, hs]
      simp [Utf8.valid]
    rw [hd]; simp
  · rw [decide_eq_decide]
    refine ⟨fun _ => ht, fun _ => ?_⟩
    refine Nat.lt_of_not_le fun h2 => ht ?_
    obtain ⟨k, hk⟩ : ∃ k, k = (decL (b :: l)).2 := ⟨_, rfl⟩
    rw [← hk] at h2
    have hd : decL (b :: l) = (65533, k) := Prod.ext h hk.symm
    clear h hk
    unfold decL at hd
    have hs := size_cons b l
    simp only [Utf8.decode, get_zero, hs, Utf8.runeError] at hd
    have hb0 := b.toNat_lt
    split at hd
    · simp at hd; omega
    · split at hd
      · split at hd
        · simp at hd; omega
        · simp at hd; omega
      · split at hd
        · rename_i h3 h4 h5
          simp only [Bool.and_eq_true, beq_iff_eq, decide_eq_true_eq] at h5
          obtain ⟨⟨g0, g1, g2⟩, g3, g4⟩ := h5
          have l1 : 0 < l.length := by omega
          have l2 : 1 < l.length := by omega
          rw [get_succ b l 0 l1] at g2
          rw [get_succ b l 1 l2] at g4
          simp only [get_succ b l 0 l1, get_succ b l 1 l2] at hd
          split at hd
          · match l, l1, l2 with
            | c :: d :: m, _, _ =>
              simp only [List.getElem_cons_zero, List.getElem_cons_succ] at g2 g4 hd
              have hc := c.toNat_lt
              have hd' := d.toNat_lt
              simp only [Prod.mk.injEq] at hd
              have e1 : b = 239 := by apply UInt8.toNat_inj.1; show _ = 239; omega
              have e2 : c = 191 := by apply UInt8.toNat_inj.1; show _ = 191; omega
              have e3 : d = 189 := by apply UInt8.toNat_inj.1; show _ = 189; omega
              rw [e1, e2, e3]; rfl
          · simp at hd; omega
        · split at hd
          · split at hd
            · rename_i h7
              simp only [Bool.and_eq_true, decide_eq_true_eq] at h7
              simp only [Prod.mk.injEq] at hd
              omega
            · simp at hd; omega
          · simp at hd; omega

/-! ### words -/
def wordsStr : List UInt8 := [32, 102, 117, 110, 99, 32, 116, 121, 112, 101, 32, 115, 116, 114, 117, 99, 116, 32, 105, 102, 32, 101, 108, 115, 101, 32, 102, 111, 114, 32, 98, 114, 101, 97, 107, 32, 99, 111, 110, 116, 105, 110, 117, 101, 32, 114, 101, 116, 117, 114, 110, 32, 103, 111, 32, 100, 101, 102, 101, 114, 32, 115, 101, 108, 101, 99, 116, 32, 99, 97, 115, 101, 32, 100, 101, 102, 97, 117, 108, 116, 32, 99, 104, 97, 110, 32, 118, 97, 114, 32, 116, 114, 117, 101, 32, 102, 97, 108, 115, 101, 32]
def wordList : List (List UInt8) := [[102, 117, 110, 99], [116, 121, 112, 101], [115, 116, 114, 117, 99, 116], [105, 102], [101, 108, 115, 101], [102, 111, 114], [98, 114, 101, 97, 107], [99, 111, 110, 116, 105, 110, 117, 101], [114, 101, 116, 117, 114, 110], [103, 111], [100, 101, 102, 101, 114], [115, 101, 108, 101, 99, 116], [99, 97, 115, 101], [100, 101, 102, 97, 117, 108, 116], [99, 104, 97, 110], [118, 97, 114], [116, 114, 117, 101], [102, 97, 108, 115, 101]]
def isWord (l : List UInt8) : Bool := wordList.contains l
theorem prefix_take (l m : List UInt8) (h : 32 ∉ l) (hp : (l ++ [32]).isPrefixOf m = true) : l = m.takeWhile (· != 32) := by
  rw [List.isPrefixOf_iff_prefix] at hp
  obtain ⟨t, rfl⟩ := hp
  rw [List.append_assoc, List.takeWhile_append_of_pos (fun x hx => by simp; rintro rfl; exact h hx)]
  simp
theorem index_pos : ∀ (s sub : List UInt8) (j : Nat), j ≤ s.length → Lib.occAt s sub j = true → 0 ≤ Lib.index s sub
  | [], sub, j, hj, h => by
    have : j = 0 := by simpa using hj
    subst this
    unfold Lib.index
    cases sub with
    | nil => simp
    | cons a t => simp [Lib.occAt] at h
  | b :: s, sub, 0, _, h => by
    unfold Lib.index
    rw [if_pos (by simpa [Lib.occAt] using h)]; exact Int.le_refl _
  | b :: s, sub, j + 1, hj, h => by
    have ih := index_pos s sub j (by simpa using hj) (by simpa [Lib.occAt] using h)
    unfold Lib.index
    split
    · exact Int.le_refl _
    · split
      · rename_i h2; simp at h2; omega
      · omega
theorem words_in : ∀ l ∈ wordList, Lib.contains wordsStr ([32] ++ l ++ [32]) = true := by decide +kernel
theorem words_at : ∀ j, j < 120 → wordsStr[j]? = some 32 → isWord ((wordsStr.drop (j + 1)).takeWhile (· != 32)) = true ∨ (wordsStr.drop (j + 1)).takeWhile (· != 32) = [] := by decide +kernel
theorem word_of (l : List UInt8) (h1 : l ≠ []) (h2 : 32 ∉ l) : Lib.contains wordsStr ([32] ++ l ++ [32]) = isWord l := by
  cases hw : isWord l
  · refine Bool.eq_false_iff.2 fun hc => ?_
    have hi : Lib.index wordsStr ([32] ++ l ++ [32]) ≠ -1 := by
      unfold Lib.contains at hc; simp only [decide_eq_true_eq] at hc; omega
    have hex : ∃ j, j ≤ wordsStr.length ∧ Lib.occAt wordsStr ([32] ++ l ++ [32]) j = true := by
      refine Classical.byContradiction fun hn => hi (Lib.index_none fun j hj => ?_)
      cases ho : Lib.occAt wordsStr ([32] ++ l ++ [32]) j with
      | false => rfl
      | true => exact absurd ⟨j, hj, ho⟩ hn
    obtain ⟨j, hj, ho⟩ := hex
    have hl : wordsStr.length ≤ 119 := by decide
    have h0 : wordsStr[j]? = some 32 := Lib.occAt_head (t := l ++ [32]) (by simp) ho
    have hp : (l ++ [32]).isPrefixOf (wordsStr.drop (j + 1)) = true := by
      unfold Lib.occAt at ho
      have hlt : j < wordsStr.length := by
        rcases Nat.lt_or_ge j wordsStr.length with h | h
        · exact h
        · rw [List.getElem?_eq_none h] at h0; cases h0
      rw [List.drop_eq_getElem_cons hlt, show [32] ++ l ++ [32] = 32 :: (l ++ [32]) by simp, List.isPrefixOf_cons_cons, Bool.and_eq_true] at ho
      exact ho.2
    have he := prefix_take l _ h2 hp
    rcases words_at j (by omega) h0 with h | h
    · rw [← he, hw] at h; cases h
    · rw [← he] at h; exact h1 h
  · exact words_in l (by simpa [isWord] using hw)
end Go.Proofs.YtakfgbedmglffaaGreatDoor
