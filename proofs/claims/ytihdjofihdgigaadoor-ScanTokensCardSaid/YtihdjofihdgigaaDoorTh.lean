/- Plain laws: a fault of a text has a number that is not 0. No program in sight. -/
import Derived.Test.YtihdjofihdgigaaDoorTg
namespace Go.Proofs.YtihdjofihdgigaaDoor
set_option linter.unusedSimpArgs false
set_option linter.unusedVariables false

theorem consR_err {t : Tok} {r : LexR} {e : Nat × Int} (h : consR t r = .error e) : r = .error e := by
  cases r with
  | error e' => cases h; rfl
  | ok l => cases h
theorem lex_err : ∀ (n : Nat) (l : List UInt8) (p : Nat) (opn : Bool) (cnt : Nat) (e : Nat × Int), l.length ≤ n → lex l p opn cnt = .error e → e.2 ≠ 0 := by
  intro n
  induction n with
  | zero =>
    intro l p opn cnt e hl h
    have : l = [] := List.length_eq_zero_iff.1 (by omega)
    subst this
    rw [lex_nil] at h
    cases opn
    · cases h
    · simp only [if_true] at h
      split at h
      · cases h; exact (by decide : (6 : Int) ≠ 0)
      · cases h
  | succ n ih =>
    intro l p opn cnt e hl h
    cases l with
    | nil =>
      rw [lex_nil] at h
      cases opn
      · cases h
      · simp only [if_true] at h
        split at h
        · cases h; exact (by decide : (6 : Int) ≠ 0)
        · cases h
    | cons b m =>
      have hm : m.length ≤ n := by simpa using hl
      by_cases hb : b = 10
      · subst hb
        rw [lex_line] at h
        cases opn
        · exact ih m _ _ _ _ hm h
        · simp only [if_true] at h
          split at h
          · cases h; exact (by decide : (6 : Int) ≠ 0)
          · exact ih m _ _ _ _ hm (consR_err h)
      · cases hk : isBlank b
        · cases hr : isRemark (b :: m)
          · have hst : starts (b :: m) = true := by simp [starts, hb, hk, hr]
            rw [lex_tok _ _ _ _ hst] at h
            split at h
            · rename_i he; cases h; exact he
            · rename_i he
              split at h
              · cases h; exact (by decide : (6 : Int) ≠ 0)
              · have he' : (oneP (b :: m) p).2.2 = 0 := by simpa using he
                have hp := one_pos (b :: m) p (by simp) he'
                exact ih _ _ _ _ _ (by rw [List.length_drop]; simp at hl ⊢; omega) (consR_err h)
          · rw [lex_remark _ _ _ _ hr] at h
            have hp := lineLen_pos b m hb
            exact ih _ _ _ _ _ (by rw [List.length_drop]; simp at hl ⊢; omega) h
        · rw [lex_blank b m p opn cnt hk] at h
          exact ih m _ _ _ _ hm h
theorem tokens_err (l : List UInt8) (p : Nat) (c : Int) (h : tokensP l = .error (p, c)) : c ≠ 0 := by
  unfold tokensP at h
  split at h
  · cases h; exact (by decide : (6 : Int) ≠ 0)
  · split at h
    · cases h; exact (by decide : (3 : Int) ≠ 0)
    · exact lex_err l.length l 0 false 0 (p, c) (Nat.le_refl _) h
theorem tokens_lex (l : List UInt8) (ts : List Tok) (h : tokensP l = .ok ts) : lex l 0 false 0 = .ok ts ∧ wholeL l = l.length ∧ l.length ≤ 65536 := by
  unfold tokensP at h
  split at h
  · cases h
  · split at h
    · cases h
    · have := wholeL_bd l
      exact ⟨h, by omega, by omega⟩
end Go.Proofs.YtihdjofihdgigaaDoor
