/- Plain laws: each token stands in the text where it says, and only blanks, remarks and lines' ends stand between. No program in sight. -/
import Derived.Test.YtihdjofihdgigaaDoorTh
namespace Go.Proofs.YtihdjofihdgigaaDoor
set_option linter.unusedSimpArgs false
set_option linter.unusedVariables false

/-- blanks, remarks and lines' ends, from a state on ('in a remark'): the state behind them; none: something else stands there -/
def runE : Bool → List UInt8 → Option Bool
  | r, [] => some r
  | r, b :: m => if b == 10 then runE false m else if r || isBlank b then runE r m else if b == 47 && m.head? == some 47 then runE true m else none
theorem runE_cons (r : Bool) (b : UInt8) (m : List UInt8) : runE r (b :: m) = if b == 10 then runE false m else if r || isBlank b then runE r m else if b == 47 && m.head? == some 47 then runE true m else none := rfl
theorem mem_tw {q : UInt8 → Bool} {c : UInt8} : ∀ l : List UInt8, c ∈ l.takeWhile q → q c = true
  | [], h => by simp at h
  | b :: l, h => by
    rw [List.takeWhile_cons] at h
    split at h
    · rename_i hb
      rcases List.mem_cons.1 h with rfl | h
      · exact hb
      · exact mem_tw l h
    · simp at h
theorem runE_app : ∀ (a : List UInt8) (r q : Bool) (b : List UInt8), runE r a = some q → runE r (a ++ b) = runE q b
  | [], r, q, b, h => by simp only [runE, Option.some.injEq] at h; subst h; rfl
  | c :: a, r, q, b, h => by
    rw [List.cons_append, runE_cons]
    rw [runE_cons] at h
    split at h
    · rename_i hc
      rw [if_pos hc]
      exact runE_app a false q b h
    · rename_i hc
      rw [if_neg hc]
      split at h
      · rename_i hr
        rw [if_pos hr]
        exact runE_app a r q b h
      · rename_i hr
        rw [if_neg hr]
        split at h
        · rename_i hs
          have hs2 : (c == 47 && (a ++ b).head? == some 47) = true := by
            simp only [Bool.and_eq_true, beq_iff_eq] at hs ⊢
            refine ⟨hs.1, ?_⟩
            cases a with
            | nil => simp at hs
            | cons d a => simpa using hs.2
          rw [if_pos hs2]
          exact runE_app a true q b h
        · cases h
/-- a line in a remark -/
theorem runE_line : ∀ (l : List UInt8), (∀ b ∈ l, b ≠ 10) → runE true l = some true
  | [], _ => rfl
  | b :: l, h => by
    rw [runE_cons]
    have hb : (b == 10) = false := by simpa using h b (List.mem_cons_self ..)
    rw [hb]
    simp only [Bool.false_eq_true, if_false, Bool.true_or, if_true]
    exact runE_line l fun c hc => h c (List.mem_cons_of_mem _ hc)
theorem runE_remark (l : List UInt8) (h : isRemark l = true) : runE false (l.take (lineLen l)) = some true := by
  match l, h with
  | [], h => simp [isRemark] at h
  | [a], h => simp [isRemark, List.isPrefixOf] at h
  | a :: b :: m, h =>
    have hab : a = 47 ∧ b = 47 := by
      simp [isRemark, List.isPrefixOf] at h
      exact ⟨h.1.symm, h.2.symm⟩
    obtain ⟨rfl, rfl⟩ := hab
    have e : (47 :: 47 :: m).take (lineLen (47 :: 47 :: m)) = 47 :: 47 :: m.takeWhile (· != 10) := by
      have : (47 :: 47 :: m).take (lineLen (47 :: 47 :: m)) = (47 :: 47 :: m).takeWhile (· != 10) := by
        unfold lineLen
        exact (List.prefix_iff_eq_take.1 (List.takeWhile_prefix _)).symm
      rw [this]
      simp [List.takeWhile_cons]
    rw [e]
    show runE false (47 :: 47 :: m.takeWhile (· != 10)) = some true
    rw [runE_cons]
    simp only [show ((47 : UInt8) == 10) = false by decide, Bool.false_eq_true, if_false, show (isBlank 47) = false by decide, Bool.or_self, List.head?_cons, beq_self_eq_true, Bool.and_self, if_true]
    exact runE_line _ (by
      intro c hc
      rcases List.mem_cons.1 hc with rfl | hc
      · decide
      · simpa using mem_tw m hc)
/-- the gap from e to p -/
def Gap (L : List UInt8) (e p : Nat) : Prop := e ≤ p ∧ p ≤ L.length ∧ ∃ r, runE false ((L.drop e).take (p - e)) = some r ∧ (r = true → L.drop p = [] ∨ (L.drop p).head? = some 10)
theorem gap_refl (L : List UInt8) (p : Nat) (h : p ≤ L.length) : Gap L p p := ⟨Nat.le_refl _, h, false, by simp [runE], fun h => by cases h⟩
theorem slice_more (L : List UInt8) (e p n : Nat) (he : e ≤ p) : (L.drop e).take (p + n - e) = (L.drop e).take (p - e) ++ (L.drop p).take n := by
  rw [show p + n - e = (p - e) + n by omega, List.take_add, List.drop_drop, show e + (p - e) = p by omega]
theorem gap_more (L : List UInt8) (e p n : Nat) (r : Bool) (h : runE false ((L.drop e).take (p - e)) = some r) (he : e ≤ p) (hn : p + n ≤ L.length) (q : Bool) (hq : runE r ((L.drop p).take n) = some q) (hh : q = true → L.drop (p + n) = [] ∨ (L.drop (p + n)).head? = some 10) : Gap L e (p + n) :=
  ⟨by omega, hn, q, by rw [slice_more L e p n he, runE_app _ _ _ _ h, hq], hh⟩
/-- the tokens stand in the text from a place on -/
def Stand (L : List UInt8) : Nat → List Tok → Prop
  | e, [] => (runE false (L.drop e)).isSome = true
  | e, t :: ts => e ≤ t.place ∧ t.place + t.text.length ≤ L.length ∧ (L.drop t.place).take t.text.length = t.text ∧ (runE false ((L.drop e).take (t.place - e))).isSome = true ∧ (t.text = [] → t.kind = 5 ∧ (t.place < L.length → L[t.place]? = some 10)) ∧ Stand L (t.place + t.text.length) ts
theorem at_drop {L : List UInt8} {p : Nat} {b : UInt8} {m : List UInt8} (h : L.drop p = b :: m) : L[p]? = some b ∧ L.drop (p + 1) = m ∧ p < L.length := by
  have h1 : (L.drop p)[0]? = some b := by rw [h]; rfl
  rw [List.getElem?_drop] at h1
  refine ⟨by simpa using h1, ?_, ?_⟩
  · rw [← List.drop_drop, h]; rfl
  · rcases Nat.lt_or_ge p L.length with h2 | h2
    · exact h2
    · rw [List.drop_eq_nil_of_le h2] at h; cases h
theorem gap_false {L : List UInt8} {e p : Nat} {b : UInt8} {m : List UInt8} (h : Gap L e p) (hd : L.drop p = b :: m) (hb : b ≠ 10) : runE false ((L.drop e).take (p - e)) = some false := by
  obtain ⟨-, -, r, hr, hq⟩ := h
  cases r with
  | false => exact hr
  | true =>
    rcases hq rfl with h | h
    · rw [hd] at h; cases h
    · rw [hd] at h; simp at h; exact absurd h hb
theorem lex_stand (l : List UInt8) (p : Nat) (opn : Bool) (cnt : Nat) (ts : List Tok) (h : lex l p opn cnt = .ok ts) : ∀ (L : List UInt8) (e : Nat), L.drop p = l → p ≤ L.length → Gap L e p → Stand L e ts := by
  refine lex_ind (fun m p opn cnt ts => ∀ (L : List UInt8) (e : Nat), L.drop p = m → p ≤ L.length → Gap L e p → Stand L e ts) ?_ ?_ ?_ ?_ ?_ ?_ ?_ l.length l p opn cnt ts (Nat.le_refl _) h
  · intro p cnt L e hd hp hg
    obtain ⟨h1, -, r, hr, -⟩ := hg
    have hpl : L.length ≤ p := List.drop_eq_nil_iff.1 hd
    show (runE false (L.drop e)).isSome = true
    rw [List.take_of_length_le (by rw [List.length_drop]; omega)] at hr
    rw [hr]; rfl
  · intro p cnt _ L e hd hp hg
    obtain ⟨h1, -, r, hr, -⟩ := hg
    have hpl : L.length ≤ p := List.drop_eq_nil_iff.1 hd
    refine ⟨h1, hp, rfl, by show (runE false ((L.drop e).take (p - e))).isSome = true; rw [hr]; rfl, fun _ => ⟨rfl, fun h => ?_⟩, ?_⟩
    · have : p < L.length := h
      omega
    · show (runE false (L.drop (p + 0))).isSome = true
      rw [Nat.add_zero, hd]; rfl
  · intro m p cnt ts ih L e hd hp hg
    obtain ⟨h1, h2, h3⟩ := at_drop hd
    obtain ⟨he, -, r, hr, -⟩ := hg
    exact ih L e h2 h3 (gap_more L e p 1 r hr he h3 false (by rw [hd]; rfl) (fun h => by cases h))
  · intro m p cnt ts _ ih L e hd hp hg
    obtain ⟨h1, h2, h3⟩ := at_drop hd
    obtain ⟨he, -, r, hr, -⟩ := hg
    refine ⟨he, hp, rfl, by show (runE false ((L.drop e).take (p - e))).isSome = true; rw [hr]; rfl, fun _ => ⟨rfl, fun _ => h1⟩, ?_⟩
    exact ih L p h2 h3 (gap_more L p p 1 false (by simp [runE]) (Nat.le_refl _) h3 false (by rw [hd]; rfl) (fun h => by cases h))
  · intro b m p opn cnt ts hb ih L e hd hp hg
    obtain ⟨h1, h2, h3⟩ := at_drop hd
    have hb10 : b ≠ 10 := by rintro rfl; simp [isBlank] at hb
    have hr := gap_false hg hd hb10
    exact ih L e h2 h3 (gap_more L e p 1 false hr hg.1 h3 false (by
      rw [hd]
      show runE false [b] = _
      rw [runE_cons, show (b == 10) = false by simpa using hb10, hb]; rfl) (fun h => by cases h))
  · intro l p opn cnt ts hrm ih L e hd hp hg
    cases l with
    | nil => simp [isRemark] at hrm
    | cons b m =>
      have hb : b = 47 := by
        cases m with
        | nil => simp [isRemark, List.isPrefixOf] at hrm
        | cons c m => simp [isRemark, List.isPrefixOf] at hrm; exact hrm.1.symm
      have hr := gap_false hg hd (by rw [hb]; decide)
      have hn := line_le (b :: m)
      have hln : p + lineLen (b :: m) ≤ L.length := by
        have := congrArg List.length hd
        rw [List.length_drop] at this; omega
      have hdd : L.drop (p + lineLen (b :: m)) = (b :: m).drop (lineLen (b :: m)) := by rw [← List.drop_drop, hd]
      refine ih L e hdd hln (gap_more L e p _ false hr hg.1 hln true (by rw [hd]; exact runE_remark _ hrm) fun _ => ?_)
      rw [hdd, drop_line]
      cases hw : (b :: m).dropWhile (· != 10) with
      | nil => exact .inl rfl
      | cons c q =>
        have := head_not _ _ _ _ hw
        exact .inr (by simpa using this)
  · intro l p opn cnt ts hst he _ ih L e hd hp hg
    have hne : l ≠ [] := by rintro rfl; simp [starts] at hst
    obtain ⟨h1, h2⟩ := one_text l p hne he
    have hf := one_fits l p
    have hpos := one_pos l p hne he
    have hL := congrArg List.length hd
    rw [List.length_drop] at hL
    have htl : (oneP l p).1.text.length = (oneP l p).2.1 := by rw [h1, List.length_take]; omega
    obtain ⟨hge, -, r, hr, -⟩ := hg
    refine ⟨by rw [h2]; exact hge, by rw [h2, htl]; omega, by rw [h2, htl, hd, h1], by rw [h2, hr]; rfl, fun h0 => ?_, ?_⟩
    · rw [h0] at htl; simp at htl; omega
    · rw [h2, htl]
      exact ih L _ (by rw [← List.drop_drop, hd]) (by omega) (gap_refl L _ (by omega))
theorem tokens_stand (l : List UInt8) (ts : List Tok) (h : tokensP l = .ok ts) : Stand l 0 ts :=
  lex_stand l 0 false 0 ts (tokens_lex l ts h).1 l 0 rfl (Nat.zero_le _) (gap_refl l 0 (Nat.zero_le _))
end Go.Proofs.YtihdjofihdgigaaDoor
