/- Plain laws: blanks ahead of a text move its tokens, and nothing else. No program in sight. -/
import Derived.Test.YtihdjofihdgigaaDoorTh
namespace Go.Proofs.YtihdjofihdgigaaDoor
set_option linter.unusedSimpArgs false
set_option linter.unusedVariables false

def shT (k : Nat) (t : Tok) : Tok := ⟨t.kind, t.text, t.num, t.place + k⟩
def shR (k : Nat) : LexR → LexR
  | .ok ts => .ok (ts.map (shT k))
  | .error (p, c) => .error (p + k, c)
theorem shR_cons (k : Nat) (t : Tok) (r : LexR) : shR k (consR t r) = consR (shT k t) (shR k r) := by
  cases r with
  | ok ts => rfl
  | error e => rfl
theorem one_shift (l : List UInt8) (p k : Nat) : (oneP l (p + k)).2 = (oneP l p).2 ∧ ((oneP l p).2.2 = 0 → (oneP l (p + k)).1 = shT k (oneP l p).1) := by
  unfold oneP
  split
  · split
    · exact ⟨rfl, fun _ => rfl⟩
    · exact ⟨rfl, fun _ => rfl⟩
  · split
    · exact ⟨rfl, fun _ => rfl⟩
    · split
      · exact ⟨rfl, fun _ => rfl⟩
      · exact ⟨rfl, fun h => by simp at h⟩
theorem closes_shift (k : Nat) (t : Tok) : closesP (shT k t) = closesP t := rfl
theorem lex_shift (k : Nat) : ∀ (n : Nat) (l : List UInt8) (p : Nat) (opn : Bool) (cnt : Nat), l.length ≤ n → lex l (p + k) opn cnt = shR k (lex l p opn cnt) := by
  have hnil : ∀ p opn cnt, lex [] (p + k) opn cnt = shR k (lex [] p opn cnt) := by
    intro p opn cnt
    rw [lex_nil, lex_nil]
    cases opn
    · rfl
    · simp only [if_true]
      split <;> rfl
  intro n
  induction n with
  | zero =>
    intro l p opn cnt hl
    have : l = [] := List.length_eq_zero_iff.1 (by omega)
    subst this
    exact hnil p opn cnt
  | succ n ih =>
    intro l p opn cnt hl
    cases l with
    | nil => exact hnil p opn cnt
    | cons b m =>
      have hm : m.length ≤ n := by simpa using hl
      by_cases hb : b = 10
      · subst hb
        rw [lex_line, lex_line, show p + k + 1 = p + 1 + k by omega]
        cases opn
        · simp only [Bool.false_eq_true, if_false]
          exact ih m _ _ _ hm
        · simp only [if_true]
          split
          · rfl
          · rw [ih m _ _ _ hm, shR_cons]; rfl
      · cases hk : isBlank b
        · cases hr : isRemark (b :: m)
          · have hst : starts (b :: m) = true := by simp [starts, hb, hk, hr]
            obtain ⟨h1, h2⟩ := one_shift (b :: m) p k
            rw [lex_tok _ _ _ _ hst, lex_tok _ _ _ _ hst, h1]
            split
            · rfl
            · rename_i he
              have he' : (oneP (b :: m) p).2.2 = 0 := by simpa using he
              split
              · rfl
              · have hp := one_pos (b :: m) p (by simp) he'
                rw [h2 he', closes_shift, show p + k + (oneP (b :: m) p).2.1 = p + (oneP (b :: m) p).2.1 + k by omega, ih _ _ _ _ (by rw [List.length_drop]; simp at hl ⊢; omega), shR_cons]
          · have hp := lineLen_pos b m hb
            rw [lex_remark _ _ _ _ hr, lex_remark _ _ _ _ hr, show p + k + lineLen (b :: m) = p + lineLen (b :: m) + k by omega]
            exact ih _ _ _ _ (by rw [List.length_drop]; simp at hl ⊢; omega)
        · rw [lex_blank b m _ opn cnt hk, lex_blank b m p opn cnt hk, show p + k + 1 = p + 1 + k by omega]
          exact ih m _ _ _ hm
theorem lex_pad (k : Nat) : ∀ (l : List UInt8) (p : Nat) (opn : Bool) (cnt : Nat), lex (List.replicate k 32 ++ l) p opn cnt = lex l (p + k) opn cnt := by
  induction k with
  | zero => intro l p opn cnt; rfl
  | succ k ih =>
    intro l p opn cnt
    rw [List.replicate_succ, List.cons_append, lex_blank 32 _ p opn cnt (by decide), ih, show p + 1 + k = p + (k + 1) by omega]
theorem whole_pad (k : Nat) (l : List UInt8) : wholeL (List.replicate k 32 ++ l) = k + wholeL l := by
  induction k with
  | zero => simp
  | succ k ih =>
    rw [List.replicate_succ, List.cons_append]
    have hd : decL (32 :: (List.replicate k 32 ++ l)) = (32, 1) := dec_ascii 32 _ (by decide)
    rw [wholeL_yes _ _ (by simp [broken, hd]), hd]
    show 1 + wholeL (List.replicate k 32 ++ l) = _
    rw [ih]; omega
theorem tokens_pad (k : Nat) (l : List UInt8) (h : l.length + k < 65536) : tokensP (List.replicate k 32 ++ l) = shR k (tokensP l) := by
  have hlen : (List.replicate k (32 : UInt8) ++ l).length = k + l.length := by simp
  have h1 : ¬ (65536 < (List.replicate k (32 : UInt8) ++ l).length) := by omega
  have h2 : ¬ (65536 < l.length) := by omega
  have hwp := whole_pad k l
  unfold tokensP
  rw [if_neg h1, if_neg h2, hwp]
  by_cases hw : wholeL l < l.length
  · have h3 : k + wholeL l < (List.replicate k (32 : UInt8) ++ l).length := by omega
    rw [if_pos h3, if_pos hw]
    show _ = Except.error (wholeL l + k, 3)
    rw [Nat.add_comm]
  · have h3 : ¬ (k + wholeL l < (List.replicate k (32 : UInt8) ++ l).length) := by omega
    rw [if_neg h3, if_neg hw, lex_pad]
    exact lex_shift k l.length l 0 false 0 (Nat.le_refl _)
/-- where tokens and faults lie -/
def PB (b : Nat) : LexR → Prop
  | .ok ts => ∀ t ∈ ts, t.place ≤ b
  | .error (p, _) => p ≤ b
theorem PB_cons (b : Nat) (t : Tok) (r : LexR) (h : t.place ≤ b) (hr : PB b r) : PB b (consR t r) := by
  cases r with
  | ok ts =>
    intro u hu
    rcases List.mem_cons.1 hu with rfl | hu
    · exact h
    · exact hr u hu
  | error e => exact hr
theorem one_place (l : List UInt8) (p : Nat) : (oneP l p).1.place ≤ p := by
  unfold oneP
  split
  · split <;> exact Nat.le_refl _
  · split
    · exact Nat.le_refl _
    · split
      · exact Nat.le_refl _
      · exact Nat.zero_le _
theorem lex_pb (q : Nat) : ∀ (n : Nat) (l : List UInt8) (p : Nat) (opn : Bool) (cnt : Nat), l.length ≤ n → p + l.length ≤ q → PB q (lex l p opn cnt) := by
  have hnil : ∀ p opn cnt, p ≤ q → PB q (lex [] p opn cnt) := by
    intro p opn cnt h
    rw [lex_nil]
    cases opn
    · exact fun t ht => by cases ht
    · simp only [if_true]
      split
      · exact h
      · intro t ht
        obtain rfl := List.mem_singleton.1 ht
        exact h
  intro n
  induction n with
  | zero =>
    intro l p opn cnt hl hq
    have : l = [] := List.length_eq_zero_iff.1 (by omega)
    subst this
    exact hnil p opn cnt (by simpa using hq)
  | succ n ih =>
    intro l p opn cnt hl hq
    cases l with
    | nil => exact hnil p opn cnt (by simpa using hq)
    | cons b m =>
      have hm : m.length ≤ n := by simpa using hl
      have hq1 : p + 1 + m.length ≤ q := by simp at hq; omega
      by_cases hb : b = 10
      · subst hb
        rw [lex_line]
        cases opn
        · simp only [Bool.false_eq_true, if_false]
          exact ih m _ _ _ hm hq1
        · simp only [if_true]
          split
          · show p ≤ q
            omega
          · exact PB_cons _ _ _ (show p ≤ q by omega) (ih m _ _ _ hm hq1)
      · cases hk : isBlank b
        · cases hr : isRemark (b :: m)
          · have hst : starts (b :: m) = true := by simp [starts, hb, hk, hr]
            rw [lex_tok _ _ _ _ hst]
            split
            · show p ≤ q
              omega
            · rename_i he
              have he' : (oneP (b :: m) p).2.2 = 0 := by simpa using he
              split
              · show p ≤ q
                omega
              · have hp := one_pos (b :: m) p (by simp) he'
                have hf := one_fits (b :: m) p
                have hpl := one_place (b :: m) p
                exact PB_cons _ _ _ (by omega) (ih _ _ _ _ (by rw [List.length_drop]; simp at hl ⊢; omega) (by rw [List.length_drop]; simp at hq hf ⊢; omega))
          · have hp := lineLen_pos b m hb
            have hf := line_le (b :: m)
            rw [lex_remark _ _ _ _ hr]
            exact ih _ _ _ _ (by rw [List.length_drop]; simp at hl ⊢; omega) (by rw [List.length_drop]; simp at hq hf ⊢; omega)
        · rw [lex_blank b m p opn cnt hk]
          exact ih m _ _ _ hm hq1
theorem tokens_pb (l : List UInt8) : PB 65536 (tokensP l) := by
  unfold tokensP
  split
  · exact Nat.zero_le _
  · split
    · show wholeL l ≤ 65536
      omega
    · exact lex_pb 65536 l.length l 0 false 0 (Nat.le_refl _) (by omega)
end Go.Proofs.YtihdjofihdgigaaDoor
