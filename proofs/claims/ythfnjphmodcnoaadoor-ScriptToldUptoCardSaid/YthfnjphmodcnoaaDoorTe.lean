/- Plain laws of the tokens of a text, as they are gathered: what is skipped ahead of a token; what has been gathered. No program in sight. -/
import Derived.Test.YthfnjphmodcnoaaDoorTd
namespace Go.Proofs.YthfnjphmodcnoaaDoor
set_option linter.unusedSimpArgs false
set_option linter.unusedVariables false

/-- how many bytes stand ahead of a token or a line's end: blanks, then a remark -/
def blanksN (l : List UInt8) : Nat := (l.takeWhile isBlank).length
def skipN (l : List UInt8) : Nat := if isRemark (l.drop (blanksN l)) then blanksN l + lineLen (l.drop (blanksN l)) else blanksN l
theorem lex_blanks : ∀ (l : List UInt8) (p : Nat) (opn : Bool) (cnt : Nat), lex l p opn cnt = lex (l.drop (blanksN l)) (p + blanksN l) opn cnt
  | [], p, opn, cnt => rfl
  | b :: m, p, opn, cnt => by
    by_cases h : isBlank b = true
    · have e : blanksN (b :: m) = blanksN m + 1 := by simp [blanksN, List.takeWhile_cons, h]
      rw [lex_blank b m p opn cnt h, lex_blanks m (p + 1) opn cnt, e, show p + (blanksN m + 1) = p + 1 + blanksN m by omega]; rfl
    · have e : blanksN (b :: m) = 0 := by simp [blanksN, List.takeWhile_cons, h]
      rw [e]; rfl
theorem lex_skip (l : List UInt8) (p : Nat) (opn : Bool) (cnt : Nat) : lex l p opn cnt = lex (l.drop (skipN l)) (p + skipN l) opn cnt := by
  rw [lex_blanks]
  unfold skipN
  cases h : isRemark (l.drop (blanksN l))
  · rfl
  · rw [lex_remark _ _ _ _ h, List.drop_drop, if_pos rfl, show p + blanksN l + lineLen (l.drop (blanksN l)) = p + (blanksN l + lineLen (l.drop (blanksN l))) by omega]
theorem blanks_le (l : List UInt8) : blanksN l ≤ l.length := by
  unfold blanksN; exact (List.takeWhile_sublist _).length_le
theorem line_le (l : List UInt8) : lineLen l ≤ l.length := by
  unfold lineLen; exact (List.takeWhile_sublist _).length_le
theorem skip_le (l : List UInt8) : skipN l ≤ l.length := by
  unfold skipN
  split
  · have := line_le (l.drop (blanksN l))
    have := blanks_le l
    rw [List.length_drop] at *
    omega
  · exact blanks_le l
theorem drop_while_len {α : Type} (q : α → Bool) : ∀ l : List α, l.drop (l.takeWhile q).length = l.dropWhile q
  | [] => rfl
  | b :: m => by
    by_cases h : q b = true
    · simp [List.takeWhile_cons, List.dropWhile_cons, h, drop_while_len q m]
    · simp [List.takeWhile_cons, List.dropWhile_cons, h]
theorem drop_blanks (l : List UInt8) : l.drop (blanksN l) = l.dropWhile isBlank := drop_while_len _ l
theorem drop_line (l : List UInt8) : l.drop (lineLen l) = l.dropWhile (· != 10) := drop_while_len _ l
theorem head_not {α : Type} (q : α → Bool) : ∀ (l : List α) (b : α) (m : List α), l.dropWhile q = b :: m → q b = false
  | [], b, m, h => by simp at h
  | c :: l, b, m, h => by
    by_cases hc : q c = true
    · rw [List.dropWhile_cons, if_pos hc] at h; exact head_not q l b m h
    · rw [List.dropWhile_cons, if_neg hc] at h
      cases h; simpa using hc
/-- what stands behind what is skipped: the end, a line's end, or a token or a fault -/
theorem skip_head (l : List UInt8) (b : UInt8) (m : List UInt8) (h : l.drop (skipN l) = b :: m) : b = 10 ∨ starts (b :: m) = true := by
  unfold skipN at h
  cases hr : isRemark (l.drop (blanksN l))
  · rw [hr] at h
    simp only [Bool.false_eq_true, if_false] at h
    have hb : isBlank b = false := head_not _ l b m (by rw [← drop_blanks]; exact h)
    rw [h] at hr
    by_cases hb10 : b = 10
    · exact .inl hb10
    · right; simp [starts, hb, hr, hb10]
  · rw [hr, if_pos rfl, ← List.drop_drop, drop_line] at h
    have := head_not _ _ b m h
    left; simpa using this
/-! ### what has been gathered -/
def preR (ts : List Tok) : LexR → LexR
  | .ok l => .ok (ts ++ l)
  | .error e => .error e
def opnOf (line : Nat) (ts : List Tok) : Bool := decide (line < ts.length) && (match ts.getLast? with | some t => closesP t | none => false)
theorem preR_cons (ts : List Tok) (t : Tok) (r : LexR) : preR ts (consR t r) = preR (ts ++ [t]) r := by
  cases r <;> simp [preR, consR]
theorem preR_nil (r : LexR) : preR [] r = r := by cases r <;> rfl
theorem opn_none (ts : List Tok) : opnOf ts.length ts = false := by simp [opnOf]
theorem opn_last (ts : List Tok) (t : Tok) (line : Nat) (h : line ≤ ts.length) : opnOf line (ts ++ [t]) = closesP t := by
  have : decide (line < (ts ++ [t]).length) = true := by simp; omega
  unfold opnOf; rw [this]; simp
/-- a token as a text may have it -/
def okTok (t : Tok) : Prop := (t.kind = 1 ∨ t.kind = 2 ∨ t.kind = 3 ∨ t.kind = 4) ∨ (t.kind = 5 ∧ enders.contains t.text = false)
theorem one_ok (l : List UInt8) (p : Nat) (h : (oneP l p).2.2 = 0) : okTok (oneP l p).1 := by
  unfold oneP at h ⊢
  split
  · split
    · exact .inl (.inl rfl)
    · simp only []
      left
      split
      · exact .inr (.inr (.inl rfl))
      · exact .inl rfl
  · split
    · exact .inl (.inr (.inl rfl))
    · rename_i h1 h2
      simp only [h1, h2, if_false] at h
      split
      · rename_i g hg
        by_cases hg5 : g = [59]
        · right; subst hg5; exact ⟨rfl, show enders.contains [59] = false by decide⟩
        · left; rw [if_neg hg5]; exact .inr (.inr (.inr rfl))
      · rename_i hg; rw [hg] at h; simp at h
theorem one_fits (l : List UInt8) (p : Nat) : (oneP l p).2.1 ≤ l.length := by
  unfold oneP
  split
  · split <;> exact runL_bd l
  · split
    · exact runL_bd l
    · split
      · rename_i g hg
        have := List.find?_some hg
        rw [List.isPrefixOf_iff_prefix] at this
        exact this.length_le
      · exact Nat.zero_le _
theorem index_line (l : List UInt8) : (if Lib.indexByte l 10 < 0 then (l.length : Int) else Lib.indexByte l 10) = (lineLen l : Int) := by
  induction l with
  | nil => rfl
  | cons b l ih =>
    unfold Lib.indexByte lineLen
    have hge := Lib.indexByte_ge l 10
    by_cases h : b = 10
    · subst h; simp
    · have hb : (b == 10) = false := by simpa using h
      have hl : ((b :: l).takeWhile (· != 10)).length = (l.takeWhile (· != 10)).length + 1 := by simp [List.takeWhile_cons, h]
      rw [hl, hb]
      have e : (l.takeWhile (· != 10)).length = lineLen l := rfl
      rw [e]
      simp only [Bool.false_eq_true, if_false, List.length_cons]
      by_cases hn : Lib.indexByte l 10 = -1
      · rw [hn] at ih ⊢
        simp at ih ⊢; omega
      · have hn' : (Lib.indexByte l 10 == -1) = false := by simpa using hn
        rw [hn']
        simp only [Bool.false_eq_true, if_false]
        rw [if_neg (by omega)] at ih
        rw [if_neg (by omega)]
        omega
end Go.Proofs.YthfnjphmodcnoaaDoor
