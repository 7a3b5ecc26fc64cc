/- Plain laws of the tokens of a text: an induction over them; where a semicolon is put; the tokens of one letter. No program in sight. -/
import Derived.Test.YthfnjphmodcnoaaDoorTe
namespace Go.Proofs.YthfnjphmodcnoaaDoor
set_option linter.unusedSimpArgs false
set_option linter.unusedVariables false

theorem consR_ok {t : Tok} {r : LexR} {ts : List Tok} (h : consR t r = .ok ts) : ∃ us, r = .ok us ∧ ts = t :: us := by
  cases r with
  | error e => cases h
  | ok l => cases h; exact ⟨l, rfl, rfl⟩
theorem lex_ind (P : List UInt8 → Nat → Bool → Nat → List Tok → Prop)
    (nil0 : ∀ p cnt, P [] p false cnt [])
    (nil1 : ∀ p cnt, cnt < 16384 → P [] p true cnt [semiTok p])
    (nl0 : ∀ m p cnt ts, P m (p + 1) false cnt ts → P (10 :: m) p false cnt ts)
    (nl1 : ∀ m p cnt ts, cnt < 16384 → P m (p + 1) false (cnt + 1) ts → P (10 :: m) p true cnt (semiTok p :: ts))
    (blank : ∀ b m p opn cnt ts, isBlank b = true → P m (p + 1) opn cnt ts → P (b :: m) p opn cnt ts)
    (remark : ∀ l p opn cnt ts, isRemark l = true → P (l.drop (lineLen l)) (p + lineLen l) opn cnt ts → P l p opn cnt ts)
    (tok : ∀ l p opn cnt ts, starts l = true → (oneP l p).2.2 = 0 → cnt < 16384 → P (l.drop (oneP l p).2.1) (p + (oneP l p).2.1) (closesP (oneP l p).1) (cnt + 1) ts → P l p opn cnt ((oneP l p).1 :: ts)) :
    ∀ (n : Nat) (l : List UInt8) (p : Nat) (opn : Bool) (cnt : Nat) (ts : List Tok), l.length ≤ n → lex l p opn cnt = .ok ts → P l p opn cnt ts := by
  intro n
  induction n with
  | zero =>
    intro l p opn cnt ts hl h
    have : l = [] := List.length_eq_zero_iff.1 (by omega)
    subst this
    rw [lex_nil] at h
    cases opn
    · cases h; exact nil0 p cnt
    · simp only [if_true] at h
      split at h
      · cases h
      · cases h; exact nil1 p cnt (by omega)
  | succ n ih =>
    intro l p opn cnt ts hl h
    cases l with
    | nil =>
      rw [lex_nil] at h
      cases opn
      · cases h; exact nil0 p cnt
      · simp only [if_true] at h
        split at h
        · cases h
        · cases h; exact nil1 p cnt (by omega)
    | cons b m =>
      have hm : m.length ≤ n := by simpa using hl
      by_cases hb : b = 10
      · subst hb
        rw [lex_line] at h
        cases opn
        · exact nl0 m p cnt ts (ih m _ _ _ _ hm h)
        · simp only [if_true] at h
          split at h
          · cases h
          · obtain ⟨us, hu, rfl⟩ := consR_ok h
            exact nl1 m p cnt us (by omega) (ih m _ _ _ _ hm hu)
      · cases hk : isBlank b
        · cases hr : isRemark (b :: m)
          · have hst : starts (b :: m) = true := by simp [starts, hb, hk, hr]
            rw [lex_tok _ _ _ _ hst] at h
            split at h
            · cases h
            · rename_i he
              split at h
              · cases h
              · obtain ⟨us, hu, rfl⟩ := consR_ok h
                have he' : (oneP (b :: m) p).2.2 = 0 := by simpa using he
                have hp := one_pos (b :: m) p (by simp) he'
                exact tok (b :: m) p opn cnt us hst he' (by omega) (ih _ _ _ _ _ (by rw [List.length_drop]; simp at hl ⊢; omega) hu)
          · rw [lex_remark _ _ _ _ hr] at h
            have hp := lineLen_pos b m hb
            exact remark (b :: m) p opn cnt ts hr (ih _ _ _ _ _ (by rw [List.length_drop]; simp at hl ⊢; omega) h)
        · rw [lex_blank b m p opn cnt hk] at h
          exact blank b m p opn cnt ts hk (ih m _ _ _ _ hm h)
/-! ### semicolons -/
def SemiOk : Bool → List Tok → Prop
  | _, [] => True
  | opn, t :: ts => (t.text = [] → opn = true ∧ t.kind = 5) ∧ SemiOk (closesP t) ts
theorem one_text (l : List UInt8) (p : Nat) (hl : l ≠ []) (h : (oneP l p).2.2 = 0) : (oneP l p).1.text = l.take (oneP l p).2.1 ∧ (oneP l p).1.place = p := by
  unfold oneP at h ⊢
  split
  · split
    · exact ⟨rfl, rfl⟩
    · exact ⟨rfl, rfl⟩
  · split
    · exact ⟨rfl, rfl⟩
    · rename_i h1 h2
      simp only [h1, h2, if_false] at h
      split
      · rename_i g hg
        have := List.find?_some hg
        rw [List.isPrefixOf_iff_prefix] at this
        exact ⟨(List.prefix_iff_eq_take.1 this), rfl⟩
      · rename_i hg; rw [hg] at h; simp at h
theorem one_ne (l : List UInt8) (p : Nat) (hl : l ≠ []) (h : (oneP l p).2.2 = 0) : (oneP l p).1.text ≠ [] := by
  rw [(one_text l p hl h).1]
  have h1 := one_pos l p hl h
  have h2 := one_fits l p
  intro e
  have := congrArg List.length e
  rw [List.length_take, List.length_nil] at this
  omega
theorem starts_ne {l : List UInt8} (h : starts l = true) : l ≠ [] := by rintro rfl; cases h
theorem closes_semi (p : Nat) : closesP (semiTok p) = false := rfl
theorem lex_semi (l : List UInt8) (p : Nat) (opn : Bool) (cnt : Nat) (ts : List Tok) (h : lex l p opn cnt = .ok ts) : SemiOk opn ts := by
  refine lex_ind (fun _ _ opn _ ts => SemiOk opn ts) ?_ ?_ ?_ ?_ ?_ ?_ ?_ l.length l p opn cnt ts (Nat.le_refl _) h
  · intros; trivial
  · intros; exact ⟨fun _ => ⟨rfl, rfl⟩, trivial⟩
  · intro m p cnt ts h; exact h
  · intro m p cnt ts _ h; exact ⟨fun _ => ⟨rfl, rfl⟩, h⟩
  · intro b m p opn cnt ts _ h; exact h
  · intro l p opn cnt ts _ h; exact h
  · intro l p opn cnt ts hs he _ h
    exact ⟨fun e => absurd e (one_ne l p (starts_ne hs) he), h⟩
theorem semi_at : ∀ (opn : Bool) (ts : List Tok), SemiOk opn ts → ∀ i (h : i < ts.length), (ts[i]).text = [] → (i = 0 ∧ opn = true) ∨ (∃ h' : 0 < i, closesP (ts[i - 1]'(by omega)) = true)
  | opn, t :: ts, h, 0, _, ht => .inl ⟨rfl, (h.1 ht).1⟩
  | opn, t :: ts, h, i + 1, hi, ht => by
    rcases semi_at (closesP t) ts h.2 i (by simpa using hi) (by simpa using ht) with ⟨rfl, hc⟩ | ⟨h', hc⟩
    · exact .inr ⟨by omega, by simpa using hc⟩
    · refine .inr ⟨by omega, ?_⟩
      obtain ⟨k, rfl⟩ : ∃ k, i = k + 1 := ⟨i - 1, by omega⟩
      simpa using hc
/-! ### the tokens of one letter -/
theorem tokens_x : tokensP [120] = .ok [⟨1, [120], 0, 0⟩, ⟨5, [], 0, 1⟩] := by
  have hd : decL [120] = (120, 1) := dec_ascii 120 [] (by decide)
  have hw : wholeL [120] = 1 := by
    rw [wholeL_yes 120 [] (by unfold broken; rw [hd]; decide), hd]
    show 1 + wholeL [] = 1
    rw [wholeL_nil]
  have hr : runL [120] = 1 := by
    rw [runL_yes 120 [] (by rw [hd]; decide), hd]
    show 1 + runL [] = 1
    rw [runL_nil]
  have ho : oneP [120] 0 = (⟨1, [120], 0, 0⟩, 1, 0) := by
    unfold oneP
    rw [hd, hr]
    rfl
  unfold tokensP
  rw [if_neg (by decide), hw, if_neg (by decide), lex_tok _ _ _ _ (by decide), ho]
  show (if _ then _ else if _ then _ else consR _ (lex ([120].drop 1) (0 + 1) _ (0 + 1))) = _
  rw [if_neg (by decide), if_neg (by decide)]
  show consR _ (lex [] 1 _ 1) = _
  rw [lex_nil]
  rfl
end Go.Proofs.YthfnjphmodcnoaaDoor
