/- Plain law: a text that is cut where one of its tokens begins has the tokens of its two parts. No program in sight. -/
import Derived.Test.YtihdjofihdgigaaDoorTk
namespace Go.Proofs.YtihdjofihdgigaaDoor
set_option linter.unusedSimpArgs false
set_option linter.unusedVariables false

/-- a list in 'lex' does not depend on how many tokens stand ahead, where there are fewer -/
theorem lex_fewer (l : List UInt8) (p : Nat) (opn : Bool) (cnt : Nat) (ts : List Tok) (h : lex l p opn cnt = .ok ts) : ∀ c, c ≤ cnt → lex l p opn c = .ok ts := by
  refine lex_ind (fun l p opn cnt ts => ∀ c, c ≤ cnt → lex l p opn c = .ok ts) ?_ ?_ ?_ ?_ ?_ ?_ ?_ l.length l p opn cnt ts (Nat.le_refl _) h
  · intro p cnt c _; rw [lex_nil]; rfl
  · intro p cnt hc c h; rw [lex_nil, if_pos rfl, if_neg (by omega)]
  · intro m p cnt ts ih c hc; rw [lex_line]; exact ih c hc
  · intro m p cnt ts h16 ih c hc; rw [lex_line, if_pos rfl, if_neg (by omega), ih (c + 1) (by omega)]; rfl
  · intro b m p opn cnt ts hb ih c hc; rw [lex_blank b m p opn c hb]; exact ih c hc
  · intro l p opn cnt ts hr ih c hc; rw [lex_remark l p opn c hr]; exact ih c hc
  · intro l p opn cnt ts hs he h16 ih c hc
    rw [lex_tok l p opn c hs, if_neg (by rw [he]; simp), if_neg (by omega), ih (c + 1) (by omega)]; rfl
theorem lex_any_opn (l : List UInt8) (p : Nat) (o o' : Bool) (cnt : Nat) (h : starts l = true) : lex l p o cnt = lex l p o' cnt := by
  rw [lex_tok l p o cnt h, lex_tok l p o' cnt h]
/-- a text of whole characters is cut where its token k begins -/
def CutOk (l : List UInt8) (p : Nat) (opn : Bool) (cnt : Nat) (ts : List Tok) : Prop :=
  Wh l → ∀ k (hk : k < ts.length), (ts[k]).text ≠ [] → ∃ d, (ts[k]).place = p + d ∧ Cut l d ∧ (∃ o, lex (l.drop d) (p + d) o (cnt + k) = .ok (ts.drop k)) ∧ starts (l.drop d) = true ∧
    ∃ sem, lex (l.take d) p opn cnt = .ok (ts.take k ++ sem) ∧ (sem = [] ∨ sem = [semiTok (p + d)])
theorem lex_cut (l : List UInt8) (p : Nat) (opn : Bool) (cnt : Nat) (ts : List Tok) (h : lex l p opn cnt = .ok ts) : CutOk l p opn cnt ts := by
  refine (lex_ind (fun l p opn cnt ts => lex l p opn cnt = .ok ts ∧ CutOk l p opn cnt ts) ?_ ?_ ?_ ?_ ?_ ?_ ?_ l.length l p opn cnt ts (Nat.le_refl _) h).2
  · intro p cnt
    exact ⟨by rw [lex_nil]; rfl, fun _ k hk => absurd hk (by simp)⟩
  · intro p cnt hc
    refine ⟨by rw [lex_nil, if_pos rfl, if_neg (by omega)], fun _ k hk ht => ?_⟩
    obtain rfl : k = 0 := by simp at hk; exact hk
    exact absurd rfl ht
  · intro m p cnt ts ⟨h1, ih⟩
    refine ⟨by rw [lex_line]; exact h1, fun hw k hk ht => ?_⟩
    have hc : Cut (10 :: m) 1 := cut_ascii 1 (10 :: m) (by simp) (by simp) hw
    obtain ⟨d, e1, e2, ⟨o, e3⟩, e4, sem, e5, e6⟩ := ih hc.2.2 k hk ht
    refine ⟨1 + d, by omega, cut_two hc e2, ⟨o, ?_⟩, ?_, sem, ?_, ?_⟩
    · rw [← List.drop_drop, show p + (1 + d) = p + 1 + d by omega]; exact e3
    · rw [← List.drop_drop]; exact e4
    · rw [Nat.add_comm 1 d]
      show lex (10 :: m.take d) p false cnt = _
      rw [lex_line]; exact e5
    · rw [show p + (1 + d) = p + 1 + d by omega]; exact e6
  · intro m p cnt ts h16 ⟨h1, ih⟩
    refine ⟨by rw [lex_line, if_pos rfl, if_neg (by omega), h1]; rfl, fun hw k hk ht => ?_⟩
    have hc : Cut (10 :: m) 1 := cut_ascii 1 (10 :: m) (by simp) (by simp) hw
    cases k with
    | zero => exact absurd rfl ht
    | succ k =>
      obtain ⟨d, e1, e2, ⟨o, e3⟩, e4, sem, e5, e6⟩ := ih hc.2.2 k (by simpa using hk) (by simpa using ht)
      refine ⟨1 + d, by simp only [List.getElem_cons_succ]; omega, cut_two hc e2, ⟨o, ?_⟩, ?_, sem, ?_, ?_⟩
      · rw [← List.drop_drop, show p + (1 + d) = p + 1 + d by omega, show cnt + (k + 1) = cnt + 1 + k by omega]; exact e3
      · rw [← List.drop_drop]; exact e4
      · rw [Nat.add_comm 1 d]
        show lex (10 :: m.take d) p true cnt = _
        rw [lex_line, if_pos rfl, if_neg (by omega), e5]; rfl
      · rw [show p + (1 + d) = p + 1 + d by omega]; exact e6
  · intro b m p opn cnt ts hb ⟨h1, ih⟩
    refine ⟨by rw [lex_blank b m p opn cnt hb]; exact h1, fun hw k hk ht => ?_⟩
    have hb8 : b.toNat < 128 := by
      unfold isBlank at hb
      simp only [Bool.or_eq_true, beq_iff_eq] at hb
      rcases hb with (rfl | rfl) | rfl <;> decide
    have hc : Cut (b :: m) 1 := cut_ascii 1 (b :: m) (by simp) (by simpa using hb8) hw
    obtain ⟨d, e1, e2, ⟨o, e3⟩, e4, sem, e5, e6⟩ := ih hc.2.2 k hk ht
    refine ⟨1 + d, by omega, cut_two hc e2, ⟨o, ?_⟩, ?_, sem, ?_, ?_⟩
    · rw [← List.drop_drop, show p + (1 + d) = p + 1 + d by omega]; exact e3
    · rw [← List.drop_drop]; exact e4
    · rw [Nat.add_comm 1 d]
      show lex (b :: m.take d) p opn cnt = _
      rw [lex_blank _ _ _ _ _ hb]; exact e5
    · rw [show p + (1 + d) = p + 1 + d by omega]; exact e6
  · intro l p opn cnt ts hr ⟨h1, ih⟩
    refine ⟨by rw [lex_remark _ _ _ _ hr]; exact h1, fun hw k hk ht => ?_⟩
    have hc : Cut l (lineLen l) := cut_line l.length l (Nat.le_refl _) hw
    obtain ⟨d, e1, e2, ⟨o, e3⟩, e4, sem, e5, e6⟩ := ih hc.2.2 k hk ht
    obtain ⟨r1, r2⟩ := remark_take l (lineLen l + d) hr (by omega)
    refine ⟨lineLen l + d, by omega, cut_two hc e2, ⟨o, ?_⟩, ?_, sem, ?_, ?_⟩
    · rw [← List.drop_drop, ← Nat.add_assoc]; exact e3
    · rw [← List.drop_drop]; exact e4
    · rw [lex_remark _ _ _ _ r1, r2, List.drop_take, Nat.add_sub_cancel_left]; exact e5
    · rw [← Nat.add_assoc]; exact e6
  · intro l p opn cnt ts hs he h16 ⟨h1, ih⟩
    have hl := starts_ne hs
    have hme : lex l p opn cnt = .ok ((oneP l p).1 :: ts) := by
      rw [lex_tok l p opn cnt hs, if_neg (by rw [he]; simp), if_neg (by omega), h1]; rfl
    refine ⟨hme, fun hw k hk ht => ?_⟩
    cases k with
    | zero =>
      refine ⟨0, (one_text l p hl he).2, cut_zero hw, ⟨opn, hme⟩, hs, ?_⟩
      rw [List.take_zero, lex_nil]
      cases opn
      · exact ⟨[], rfl, .inl rfl⟩
      · exact ⟨[semiTok p], by rw [if_pos rfl, if_neg (by omega)]; rfl, .inr rfl⟩
    | succ k =>
      have hc := one_cut l p hl hw he
      have hp := one_pos l p hl he
      obtain ⟨d, e1, e2, ⟨o, e3⟩, e4, sem, e5, e6⟩ := ih hc.2.2 k (by simpa using hk) (by simpa using ht)
      have ho := one_take l p ((oneP l p).2.1 + d) hl hw he (by omega)
      have hst := starts_take l ((oneP l p).2.1 + d) hs (by omega)
      refine ⟨(oneP l p).2.1 + d, by simp only [List.getElem_cons_succ]; omega, cut_two hc e2, ⟨o, ?_⟩, ?_, sem, ?_, ?_⟩
      · rw [← List.drop_drop, ← Nat.add_assoc, show cnt + (k + 1) = cnt + 1 + k by omega]; exact e3
      · rw [← List.drop_drop]; exact e4
      · rw [lex_tok _ _ _ _ hst, ho, if_neg (by rw [he]; simp), if_neg (by omega), List.drop_take, Nat.add_sub_cancel_left, e5]; rfl
      · rw [← Nat.add_assoc]; exact e6
/-- the tokens of a text's two parts -/
theorem tokens_cut (l : List UInt8) (ts : List Tok) (h : tokensP l = .ok ts) (k : Nat) (hk : k < ts.length) (ht : (ts[k]).text ≠ []) :
    (ts[k]).place ≤ l.length ∧ (∃ bs, tokensP (l.drop (ts[k]).place) = .ok bs ∧ (bs.map (shT (ts[k]).place)) = ts.drop k) ∧
    ∃ sem, tokensP (l.take (ts[k]).place) = .ok (ts.take k ++ sem) ∧ (sem = [] ∨ sem = [semiTok (ts[k]).place]) := by
  obtain ⟨h1, h2, h3⟩ := tokens_lex l ts h
  obtain ⟨d, e1, e2, ⟨o, e3⟩, e4, sem, e5, e6⟩ := lex_cut l 0 false 0 ts h1 h2 k hk ht
  simp only [Nat.zero_add] at e1 e3 e6
  rw [e1]
  refine ⟨e2.1, ?_, sem, ?_, e6⟩
  · have f1 := lex_fewer _ _ _ _ _ e3 0 (Nat.zero_le _)
    rw [lex_any_opn _ _ o false 0 e4] at f1
    have f2 := lex_shift d (l.drop d).length (l.drop d) 0 false 0 (Nat.le_refl _)
    rw [Nat.zero_add, f1] at f2
    cases hb : lex (l.drop d) 0 false 0 with
    | error e => rw [hb] at f2; cases f2
    | ok bs =>
      rw [hb] at f2
      refine ⟨bs, ?_, ?_⟩
      · unfold tokensP
        rw [if_neg (by rw [List.length_drop]; omega), e2.2.2, if_neg (by omega)]
        exact hb
      · have : (ts.drop k) = bs.map (shT d) := by
          have := Except.ok.inj f2
          exact this
        exact this.symm
  · unfold tokensP
    rw [if_neg (by rw [List.length_take]; omega), e2.2.1, if_neg (by omega)]
    exact e5
end Go.Proofs.YtihdjofihdgigaaDoor
