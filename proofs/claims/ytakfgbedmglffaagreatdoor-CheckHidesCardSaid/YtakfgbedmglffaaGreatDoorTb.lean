/- Plain functions for the tokens of a text: numbers, signs, tokens. No program in sight. -/
import Derived.Test.YtakfgbedmglffaaGreatDoorTa
namespace Go.Proofs.YtakfgbedmglffaaGreatDoor
set_option linter.unusedSimpArgs false
set_option linter.unusedVariables false

/-! ### numbers -/
/-- the value of a digit -/
def digVal (hex : Bool) (c : UInt8) : Option Nat :=
  if 48 ≤ c.toNat ∧ c.toNat ≤ 57 then some (c.toNat - 48)
  else if hex ∧ 97 ≤ c.toNat ∧ c.toNat ≤ 102 then some (c.toNat - 87)
  else if hex ∧ 65 ≤ c.toNat ∧ c.toNat ≤ 70 then some (c.toNat - 55)
  else none
def baseN (hex : Bool) : Nat := if hex then 16 else 10
def valFrom (hex : Bool) (n : Nat) : List UInt8 → Option Nat
  | [] => some n
  | c :: l => match digVal hex c with
    | some d => valFrom hex (n * baseN hex + d) l
    | none => none
def isHex : List UInt8 → Bool
  | 48 :: 120 :: _ => true
  | _ => false
def digitsOf (l : List UInt8) : List UInt8 := if isHex l then l.drop 2 else l
def badZero : List UInt8 → Bool
  | 48 :: _ :: _ => true
  | _ => false
/-- a number: its value, and the error -/
def numP (l : List UInt8) : Nat × Int :=
  if !isHex l && badZero l then (0, 4)
  else if digitsOf l = [] then (0, 4)
  else match valFrom (isHex l) 0 (digitsOf l) with
    | none => (0, 4)
    | some v => if v < 18446744073709551616 then (v, 0) else (0, 6)

/-! ### tokens -/
structure Tok where
  kind : Int
  text : List UInt8
  num : Int
  place : Nat
def signList : List (List UInt8) := [[60, 60], [62, 62], [38, 94], [38, 38], [124, 124], [61, 61], [33, 61], [60, 61], [62, 61], [58, 61], [60, 45], [43], [45], [42], [47], [37], [38], [124], [94], [33], [60], [62], [61], [40], [41], [91], [93], [123], [125], [44], [46], [58], [59]]
def signOf (l : List UInt8) : Option (List UInt8) := signList.find? fun g => g.isPrefixOf l
/-- the token that a text begins with, how long it is, and the error -/
def oneP (l : List UInt8) (at_ : Nat) : Tok × Nat × Int :=
  if isLet (decL l).1 then
    if 64 < runL l then (⟨1, l.take (runL l), 0, at_⟩, runL l, 6)
    else (⟨if isWord (l.take (runL l)) then 3 else 1, l.take (runL l), 0, at_⟩, runL l, 0)
  else if isDig (decL l).1 then (⟨2, l.take (runL l), (numP (l.take (runL l))).1, at_⟩, runL l, (numP (l.take (runL l))).2)
  else match signOf l with
    | some g => (⟨if g = [59] then 5 else 4, g, 0, at_⟩, g.length, 0)
    | none => (⟨0, [], 0, 0⟩, 0, 4)
def enders : List (List UInt8) := [[98, 114, 101, 97, 107], [99, 111, 110, 116, 105, 110, 117, 101], [114, 101, 116, 117, 114, 110], [116, 114, 117, 101], [102, 97, 108, 115, 101], [41], [93], [125]]
def closesP (t : Tok) : Bool := t.kind == 1 || t.kind == 2 || enders.contains t.text
def semiTok (p : Nat) : Tok := ⟨5, [], 0, p⟩
def isBlank (b : UInt8) : Bool := b == 9 || b == 13 || b == 32
def isRemark (l : List UInt8) : Bool := [47, 47].isPrefixOf l
def lineLen (l : List UInt8) : Nat := (l.takeWhile (· != 10)).length
abbrev LexR := Except (Nat × Int) (List Tok)
def consR (t : Tok) : LexR → LexR
  | .ok l => .ok (t :: l)
  | .error e => .error e
/-- the tokens of what is left of a text: at a place, behind 'cnt' tokens, and whether a line's end ends a statement there -/
def lex (l : List UInt8) (p : Nat) (opn : Bool) (cnt : Nat) : LexR :=
  match l with
  | [] => if opn then (if 16384 ≤ cnt then .error (p, 6) else .ok [semiTok p]) else .ok []
  | b :: m =>
    if b == 10 then
      if opn then (if 16384 ≤ cnt then .error (p, 6) else consR (semiTok p) (lex m (p + 1) false (cnt + 1)))
      else lex m (p + 1) false cnt
    else if isBlank b then lex m (p + 1) opn cnt
    else if isRemark (b :: m) then lex (m.drop (lineLen (b :: m) - 1)) (p + lineLen (b :: m)) opn cnt
    else
      let r := oneP (b :: m) p
      if r.2.2 ≠ 0 then .error (p, r.2.2)
      else if 16384 ≤ cnt then .error (p, 6)
      else consR r.1 (lex (m.drop (r.2.1 - 1)) (p + r.2.1) (closesP r.1) (cnt + 1))
termination_by l.length
decreasing_by all_goals simp_all; try omega
/-- the tokens of a text, or the place of its first fault, and which -/
def tokensP (l : List UInt8) : LexR :=
  if 65536 < l.length then .error (0, 6)
  else if wholeL l < l.length then .error (wholeL l, 3)
  else lex l 0 false 0

/-! ### the equations of 'lex' -/
theorem lex_nil (p : Nat) (opn : Bool) (cnt : Nat) : lex [] p opn cnt = if opn then (if 16384 ≤ cnt then .error (p, 6) else .ok [semiTok p]) else .ok [] := by rw [lex]
theorem lex_line (m : List UInt8) (p : Nat) (opn : Bool) (cnt : Nat) : lex (10 :: m) p opn cnt = if opn then (if 16384 ≤ cnt then .error (p, 6) else consR (semiTok p) (lex m (p + 1) false (cnt + 1))) else lex m (p + 1) false cnt := by
  rw [lex]; simp
theorem lex_blank (b : UInt8) (m : List UInt8) (p : Nat) (opn : Bool) (cnt : Nat) (h : isBlank b = true) : lex (b :: m) p opn cnt = lex m (p + 1) opn cnt := by
  have hb : (b == 10) = false := by
    unfold isBlank at h; simp at h ⊢; rintro rfl; simp at h
  rw [lex, hb, h]; simp
theorem lineLen_pos (b : UInt8) (m : List UInt8) (h : b ≠ 10) : 1 ≤ lineLen (b :: m) := by
  unfold lineLen; simp [List.takeWhile_cons, h]
theorem drop_pos {α : Type} (b : α) (m : List α) (k : Nat) (h : 1 ≤ k) : m.drop (k - 1) = (b :: m).drop k := by
  obtain ⟨j, rfl⟩ : ∃ j, k = j + 1 := ⟨k - 1, by omega⟩
  rfl
theorem lex_remark (l : List UInt8) (p : Nat) (opn : Bool) (cnt : Nat) (h : isRemark l = true) : lex l p opn cnt = lex (l.drop (lineLen l)) (p + lineLen l) opn cnt := by
  cases l with
  | nil => simp [isRemark] at h
  | cons b m =>
    have hb : b = 47 := by simp [isRemark] at h; exact h.1.symm
    have hb1 : (b == 10) = false := by subst hb; decide
    have hb2 : isBlank b = false := by subst hb; decide
    rw [lex, hb1, hb2, h, drop_pos b m _ (lineLen_pos b m (by subst hb; decide))]
    simp
/-- a text that begins with a token or a fault -/
def starts (l : List UInt8) : Bool := match l with
  | [] => false
  | b :: _ => !(b == 10) && !isBlank b && !isRemark l
theorem one_pos (l : List UInt8) (p : Nat) (hl : l ≠ []) (h : (oneP l p).2.2 = 0) : 1 ≤ (oneP l p).2.1 := by
  obtain ⟨b, m, rfl⟩ : ∃ b m, l = b :: m := by cases l with | nil => exact absurd rfl hl | cons b m => exact ⟨b, m, rfl⟩
  have hp := dec_pos b m
  unfold oneP at h ⊢
  cases hL : isLet (decL (b :: m)).1
  · cases hD : isDig (decL (b :: m)).1
    · simp only [hL, hD, Bool.false_eq_true, if_false] at h ⊢
      split
      · rename_i g hg
        unfold signOf at hg
        have := List.mem_of_find?_eq_some hg
        show 1 ≤ g.length
        have hall : ∀ g ∈ signList, 1 ≤ g.length := by decide
        exact hall g this
      · rename_i hg; rw [hg] at h; simp at h
    · simp only [hL, hD, Bool.false_eq_true, if_false, if_true]
      have : isLD (decL (b :: m)).1 = true := by simp [isLD, hD]
      rw [runL_yes b m this]; omega
  · simp only [hL, if_true]
    have : isLD (decL (b :: m)).1 = true := by simp [isLD, hL]
    rw [runL_yes b m this]; split <;> (simp only []; omega)
theorem lex_tok (l : List UInt8) (p : Nat) (opn : Bool) (cnt : Nat) (h : starts l = true) :
    lex l p opn cnt = if (oneP l p).2.2 ≠ 0 then .error (p, (oneP l p).2.2) else if 16384 ≤ cnt then .error (p, 6) else consR (oneP l p).1 (lex (l.drop (oneP l p).2.1) (p + (oneP l p).2.1) (closesP (oneP l p).1) (cnt + 1)) := by
  cases l with
  | nil => cases h
  | cons b m =>
    simp only [starts, Bool.and_eq_true, Bool.not_eq_true'] at h
    rw [lex, h.1.1, h.1.2, h.2]
    simp only [Bool.false_eq_true, if_false]
    by_cases he : (oneP (b :: m) p).2.2 = 0
    · rw [drop_pos b m _ (one_pos (b :: m) p (by simp) he)]
    · simp only [ne_eq, he, not_false_eq_true, if_true]
end Go.Proofs.YtakfgbedmglffaaGreatDoor
