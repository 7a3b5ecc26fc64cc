/- Plain laws of a text that is cut where one of its tokens begins. No program in sight. -/
import Derived.Test.YtihdjofihdgigaaDoorTi
import Derived.Test.YtihdjofihdgigaaDoorTh
import Derived.Test.YtihdjofihdgigaaDoorTg
import Derived.Test.YtihdjofihdgigaaDoorTj
import Derived.Lib.MapLaws
namespace Go.Proofs.YtihdjofihdgigaaDoor
set_option linter.unusedSimpArgs false
set_option linter.unusedVariables false

theorem decN (l : List UInt8) : decL l = Lib.decodeN l.length (l.getD 0 0).toNat (l.getD 1 0).toNat (l.getD 2 0).toNat (l.getD 3 0).toNat := Lib.decodeL_N l
/-- a character is told by its own bytes -/
theorem dec_local (x y : List UInt8) (hb : broken x = false) (hlen : (decL x).2 ≤ y.length) (h : ∀ j, j < (decL x).2 → x.getD j 0 = y.getD j 0) : decL y = decL x := by
  have hnb : ¬ ((decL x).1 = 65533 ∧ (decL x).2 < 2) := by
    intro hh; unfold broken at hb; simp [hh.1, hh.2] at hb
  rw [decN x] at hnb hlen h
  rw [decN y, decN x]
  have q0 := (x.getD 0 0).toNat_lt
  rcases Lib.decodeN_shape x.length (x.getD 0 0).toNat (x.getD 1 0).toNat (x.getD 2 0).toNat (x.getD 3 0).toNat with ⟨c, e⟩ | ⟨c1, c2, c3, cv, e⟩ | ⟨c1, c2, c3, c4, cv, cs, e⟩ | ⟨c1, c2, c3, c4, c5, cv, cw, e⟩ | e
  · rw [e] at h hlen ⊢
    rw [← h 0 (by simp)]
    unfold Lib.decodeN; rw [if_pos c]
  · rw [e] at h hlen ⊢
    simp only [] at h hlen
    rw [← h 0 (by simp), ← h 1 (by simp)]
    unfold Lib.decodeN; rw [if_neg (by omega), if_pos ⟨c1, by omega, c3⟩, if_pos cv]
  · rw [e] at h hlen ⊢
    simp only [] at h hlen
    rw [← h 0 (by simp), ← h 1 (by simp), ← h 2 (by simp)]
    unfold Lib.decodeN; rw [if_neg (by omega), if_neg (by omega), if_pos ⟨c1, ⟨by omega, c3⟩, ⟨by omega, c4⟩⟩, if_pos ⟨cv, by omega⟩]
  · rw [e] at h hlen ⊢
    simp only [] at h hlen
    rw [← h 0 (by simp), ← h 1 (by simp), ← h 2 (by simp), ← h 3 (by simp)]
    unfold Lib.decodeN; rw [if_neg (by omega), if_neg (by omega), if_neg (by omega), if_pos ⟨c1, ⟨by omega, c3⟩, ⟨by omega, c4⟩, ⟨by omega, c5⟩⟩, if_pos ⟨cv, by omega⟩]
  · rw [e] at hnb; simp at hnb
theorem broken_same {x y : List UInt8} (h : decL y = decL x) : broken y = broken x := by unfold broken; rw [h]
theorem fits_ne {l : List UInt8} (hl : l ≠ []) : (decL l).2 ≤ l.length ∧ 1 ≤ (decL l).2 := by
  cases l with
  | nil => exact absurd rfl hl
  | cons b m => exact ⟨dec_fits b m, dec_pos b m⟩
theorem dec_take (l : List UInt8) (n : Nat) (hl : l ≠ []) (hb : broken l = false) (h : (decL l).2 ≤ n) : decL (l.take n) = decL l := by
  have := fits_ne hl
  refine dec_local l (l.take n) hb (by rw [List.length_take]; omega) fun j hj => ?_
  rw [List.getD_eq_getElem?_getD, List.getD_eq_getElem?_getD, List.getElem?_take_of_lt (by omega)]
theorem dec_app (x y : List UInt8) (hx : x ≠ []) (hb : broken x = false) : decL (x ++ y) = decL x := by
  have := fits_ne hx
  refine dec_local x (x ++ y) hb (by rw [List.length_append]; omega) fun j hj => ?_
  rw [List.getD_eq_getElem?_getD, List.getD_eq_getElem?_getD, List.getElem?_append_left (by omega)]
theorem dec_cont (l : List UInt8) (j : Nat) (h0 : 0 < j) (hj : j < (decL l).2) : 128 ≤ (l.getD j 0).toNat := by
  rw [decN l] at hj
  rcases Lib.decodeN_shape l.length (l.getD 0 0).toNat (l.getD 1 0).toNat (l.getD 2 0).toNat (l.getD 3 0).toNat with ⟨c, e⟩ | ⟨c1, c2, c3, cv, e⟩ | ⟨c1, c2, c3, c4, cv, cs, e⟩ | ⟨c1, c2, c3, c4, c5, cv, cw, e⟩ | e
  all_goals
    rw [e] at hj
    simp only [] at hj
  · omega
  · obtain rfl : j = 1 := by omega
    omega
  · obtain rfl | rfl : j = 1 ∨ j = 2 := by omega
    · omega
    · omega
  · obtain rfl | rfl | rfl : j = 1 ∨ j = 2 ∨ j = 3 := by omega
    · omega
    · omega
    · omega
  · omega

/-! ### texts of whole characters -/
def Wh (l : List UInt8) : Prop := wholeL l = l.length
theorem wh_nil : Wh [] := wholeL_nil
theorem wh_ne {l : List UInt8} (h : Wh l) (hl : l ≠ []) : broken l = false ∧ Wh (l.drop (decL l).2) := by
  have hf := fits_ne hl
  cases l with
  | nil => exact absurd rfl hl
  | cons b m =>
    unfold Wh at h
    cases hb : broken (b :: m)
    · rw [wholeL_yes b m hb] at h
      exact ⟨rfl, by unfold Wh; rw [List.length_drop]; omega⟩
    · rw [wholeL_no b m hb] at h; simp at h
theorem wh_step {l : List UInt8} (hl : l ≠ []) (hb : broken l = false) : wholeL l = (decL l).2 + wholeL (l.drop (decL l).2) := by
  cases l with
  | nil => exact absurd rfl hl
  | cons b m => exact wholeL_yes b m hb
theorem wh_app (y : List UInt8) : ∀ (n : Nat) (x : List UInt8), x.length ≤ n → Wh x → wholeL (x ++ y) = x.length + wholeL y := by
  intro n
  induction n with
  | zero =>
    intro x hx _
    have : x = [] := List.length_eq_zero_iff.1 (by omega)
    subst this; simp
  | succ n ih =>
    intro x hx hw
    by_cases he : x = []
    · subst he; simp
    · obtain ⟨hb, hw2⟩ := wh_ne hw he
      have hd := dec_app x y he hb
      have hf := fits_ne he
      have hxy : x ++ y ≠ [] := by simp [he]
      rw [wh_step hxy (by rw [broken_same hd]; exact hb), hd, List.drop_append_of_le_length hf.1, ih _ (by rw [List.length_drop]; omega) hw2, List.length_drop]
      omega
theorem wh_join {x y : List UInt8} (hx : Wh x) (hy : Wh y) : Wh (x ++ y) := by
  unfold Wh; rw [wh_app y x.length x (Nat.le_refl _) hx, hy, List.length_append]
def Cut (l : List UInt8) (n : Nat) : Prop := n ≤ l.length ∧ Wh (l.take n) ∧ Wh (l.drop n)
theorem cut_zero {l : List UInt8} (h : Wh l) : Cut l 0 := ⟨Nat.zero_le _, by rw [List.take_zero]; exact wh_nil, h⟩
theorem take_two (l : List UInt8) (a b : Nat) : l.take (a + b) = l.take a ++ (l.drop a).take b := List.take_add
theorem cut_two {l : List UInt8} {a b : Nat} (h : Cut l a) (k : Cut (l.drop a) b) : Cut l (a + b) := by
  have := h.1; have := k.1
  rw [List.length_drop] at this
  exact ⟨by omega, by rw [take_two]; exact wh_join h.2.1 k.2.1, by rw [← List.drop_drop]; exact k.2.2⟩
theorem cut_char {l : List UInt8} (h : Wh l) (hl : l ≠ []) : Cut l (decL l).2 := by
  have hf := fits_ne hl
  obtain ⟨hb, hw⟩ := wh_ne h hl
  refine ⟨hf.1, ?_, hw⟩
  have hd := dec_take l (decL l).2 hl hb (Nat.le_refl _)
  have hne : l.take (decL l).2 ≠ [] := by
    intro e; have := congrArg List.length e; rw [List.length_take, List.length_nil] at this; omega
  unfold Wh
  rw [wh_step hne (by rw [broken_same hd]; exact hb), hd, List.drop_take, Nat.sub_self, List.take_zero, wholeL_nil, List.length_take]
  omega
theorem cut_run : ∀ (n : Nat) (l : List UInt8), l.length ≤ n → Wh l → Cut l (runL l) := by
  intro n
  induction n with
  | zero =>
    intro l hl h
    have : l = [] := List.length_eq_zero_iff.1 (by omega)
    subst this; rw [runL_nil]; exact cut_zero h
  | succ n ih =>
    intro l hl h
    cases l with
    | nil => rw [runL_nil]; exact cut_zero h
    | cons b m =>
      cases hr : isLD (decL (b :: m)).1
      · rw [runL_no b m hr]; exact cut_zero h
      · have hc := cut_char h (List.cons_ne_nil b m)
        have hp := dec_pos b m
        rw [runL_yes b m hr]
        exact cut_two hc (ih _ (by rw [List.length_drop]; simp at hl ⊢; omega) hc.2.2)
theorem line_skip (l : List UInt8) (d : Nat) (hd : d ≤ l.length) (h : ∀ j, j < d → l.getD j 0 ≠ 10) : lineLen l = d + lineLen (l.drop d) := by
  have e : l = l.take d ++ l.drop d := (List.take_append_drop d l).symm
  have hall : ∀ a ∈ l.take d, (a != 10) = true := by
    intro a ha
    obtain ⟨j, hj, rfl⟩ := List.getElem_of_mem ha
    rw [List.length_take] at hj
    have := h j (by omega)
    rw [List.getElem_take, bne_iff_ne]
    rw [List.getD_eq_getElem?_getD, List.getElem?_eq_getElem (by omega)] at this
    simpa using this
  unfold lineLen
  conv => lhs; rw [e]
  rw [List.takeWhile_append_of_pos hall, List.length_append, List.length_take]
  omega
theorem cut_line : ∀ (n : Nat) (l : List UInt8), l.length ≤ n → Wh l → Cut l (lineLen l) := by
  intro n
  induction n with
  | zero =>
    intro l hl h
    have : l = [] := List.length_eq_zero_iff.1 (by omega)
    subst this; exact cut_zero h
  | succ n ih =>
    intro l hl h
    cases l with
    | nil => exact cut_zero h
    | cons b m =>
      by_cases hb : b = 10
      · subst hb
        have : lineLen (10 :: m) = 0 := by simp [lineLen]
        rw [this]; exact cut_zero h
      · have hc := cut_char h (List.cons_ne_nil b m)
        have hp := dec_pos b m
        rw [line_skip (b :: m) (decL (b :: m)).2 (dec_fits b m) (by
          intro j hj
          by_cases h0 : j = 0
          · subst h0; simpa using hb
          · have := dec_cont (b :: m) j (by omega) hj
            intro e; rw [e] at this; exact absurd this (by decide))]
        exact cut_two hc (ih _ (by rw [List.length_drop]; simp at hl ⊢; omega) hc.2.2)
theorem cut_ascii : ∀ (n : Nat) (l : List UInt8), n ≤ l.length → (∀ b ∈ l.take n, b.toNat < 128) → Wh l → Cut l n := by
  intro n
  induction n with
  | zero => intro l _ _ h; exact cut_zero h
  | succ n ih =>
    intro l hl ha h
    cases l with
    | nil => simp at hl
    | cons b m =>
      have hd := dec_ascii b m (ha b (by simp))
      have hc := cut_char h (List.cons_ne_nil b m)
      rw [hd] at hc
      rw [Nat.add_comm]
      exact cut_two hc (ih m (by simpa using hl) (fun c hc => ha c (by simp [hc])) hc.2.2)
theorem one_shape (l : List UInt8) (p : Nat) (hl : l ≠ []) (he : (oneP l p).2.2 = 0) : ((isLD (decL l).1 = true ∧ (oneP l p).2.1 = runL l) ∨ (isLet (decL l).1 = false ∧ isDig (decL l).1 = false ∧ signR l ≠ [] ∧ (oneP l p).2.1 = (signR l).length)) := by
  unfold oneP at he ⊢
  cases hL : isLet (decL l).1
  · cases hD : isDig (decL l).1
    · right
      simp only [hL, hD, Bool.false_eq_true, if_false] at he ⊢
      rw [sign_eq l hl] at he ⊢
      by_cases h : signR l = []
      · rw [if_pos h] at he; simp at he
      · rw [if_neg h]; exact ⟨trivial, trivial, h, rfl⟩
    · left
      simp only [hL, hD, Bool.false_eq_true, if_false, if_true] at he ⊢
      exact ⟨by simp [isLD, hD], trivial⟩
  · left
    simp only [hL, if_true] at he ⊢
    refine ⟨by simp [isLD, hL], ?_⟩
    split <;> rfl
theorem signR_take (l : List UInt8) (h : signR l ≠ []) : l.take (signR l).length = signR l ∧ (signR l).length ≤ l.length ∧ ∀ b ∈ signR l, b.toNat < 128 := by
  have h2 : ∀ g ∈ twoList, ∀ b ∈ g, b.toNat < 128 := by decide
  have h1 : ∀ g ∈ singleList, ∀ b ∈ g, b.toNat < 128 := by decide
  unfold signR at h ⊢
  split
  · rename_i hc
    refine ⟨by rw [List.length_take, List.take_eq_take_iff]; omega, by rw [List.length_take]; omega, h2 _ (List.contains_iff_mem.1 hc.2)⟩
  · rename_i hc
    rw [if_neg hc] at h
    split
    · rename_i hs
      refine ⟨by rw [List.length_take, List.take_eq_take_iff]; omega, by rw [List.length_take]; omega, h1 _ (List.contains_iff_mem.1 hs)⟩
    · rename_i hs; rw [if_neg hs] at h; exact absurd rfl h
theorem one_cut (l : List UInt8) (p : Nat) (hl : l ≠ []) (h : Wh l) (he : (oneP l p).2.2 = 0) : Cut l (oneP l p).2.1 := by
  rcases one_shape l p hl he with ⟨-, e⟩ | ⟨-, -, h3, e⟩
  · rw [e]; exact cut_run l.length l (Nat.le_refl _) h
  · rw [e]
    have hs := signR_take l h3
    exact cut_ascii _ l hs.2.1 (by rw [hs.1]; exact hs.2.2) h
theorem run_take : ∀ (k : Nat) (l : List UInt8) (n : Nat), l.length ≤ k → Wh l → runL l ≤ n → runL (l.take n) = runL l := by
  intro k
  induction k with
  | zero =>
    intro l n hl _ _
    have : l = [] := List.length_eq_zero_iff.1 (by omega)
    subst this; simp
  | succ k ih =>
    intro l n hl h hn
    cases l with
    | nil => simp
    | cons b m =>
      obtain ⟨hb, hw⟩ := wh_ne h (List.cons_ne_nil b m)
      cases n with
      | zero => rw [List.take_zero, runL_nil]; omega
      | succ n =>
        have ht : (b :: m).take (n + 1) = b :: m.take n := rfl
        cases hr : isLD (decL (b :: m)).1
        · rw [runL_no b m hr, ht]
          refine runL_no _ _ ?_
          rw [← ht]
          cases hb2 : broken ((b :: m).take (n + 1))
          · have := dec_app ((b :: m).take (n + 1)) ((b :: m).drop (n + 1)) (by rw [ht]; simp) hb2
            rw [List.take_append_drop] at this
            rw [← this]; exact hr
          · unfold broken at hb2
            simp only [Bool.and_eq_true, beq_iff_eq] at hb2
            rw [hb2.1]; decide
        · have hr1 := runL_yes b m hr
          have hdt := dec_take (b :: m) (n + 1) (List.cons_ne_nil b m) hb (by omega)
          have hp := dec_pos b m
          rw [hr1]
          rw [ht] at hdt ⊢
          rw [runL_yes b (m.take n) (by rw [hdt]; exact hr), hdt, ← ht, List.drop_take, ih _ _ (by rw [List.length_drop]; simp at hl ⊢; omega) hw (by omega)]
theorem signR_cut (l : List UInt8) (n : Nat) (h : signR l ≠ []) (hn : (signR l).length ≤ n) : signR (l.take n) = signR l := by
  have hs := signR_take l h
  have h0 : (signR l).length ≠ 0 := by intro e; exact h (List.length_eq_zero_iff.1 e)
  unfold signR at h hn hs h0 ⊢
  by_cases hc : 2 ≤ l.length ∧ twoList.contains (l.take 2) = true
  · rw [if_pos hc] at hn h0 ⊢
    rw [List.length_take] at hn
    have e : (l.take n).take 2 = l.take 2 := by rw [List.take_take]; congr 1; omega
    rw [e, if_pos ⟨by rw [List.length_take]; omega, hc.2⟩]
  · rw [if_neg hc] at hn h h0 ⊢
    by_cases hs1 : singleList.contains (l.take 1) = true
    · rw [if_pos hs1] at hn h0 ⊢
      rw [List.length_take] at hn h0
      have e : (l.take n).take 1 = l.take 1 := by rw [List.take_take]; congr 1; omega
      rw [e, if_pos hs1, if_neg]
      intro hh
      rw [List.length_take] at hh
      have e2 : (l.take n).take 2 = l.take 2 := by rw [List.take_take]; congr 1; omega
      rw [e2] at hh
      exact hc ⟨by omega, hh.2⟩
    · rw [if_neg hs1] at h; exact absurd rfl h
theorem one_take (l : List UInt8) (p n : Nat) (hl : l ≠ []) (h : Wh l) (he : (oneP l p).2.2 = 0) (hn : (oneP l p).2.1 ≤ n) : oneP (l.take n) p = oneP l p := by
  obtain ⟨hb, -⟩ := wh_ne h hl
  have hp := one_pos l p hl he
  rcases one_shape l p hl he with ⟨h1, e⟩ | ⟨hL, hD, h3, e⟩
  · have hr := run_take l.length l n (Nat.le_refl _) h (by omega)
    have hd : decL (l.take n) = decL l := by
      refine dec_take l n hl hb ?_
      cases l with
      | nil => exact absurd rfl hl
      | cons b m => rw [runL_yes b m h1] at e; omega
    have ht : (l.take n).take (runL l) = l.take (runL l) := by rw [List.take_take]; congr 1; omega
    unfold oneP
    rw [hr, hd, ht]
    cases hL : isLet (decL l).1
    · have hD : isDig (decL l).1 = true := by simpa [isLD, hL] using h1
      simp only [hD, Bool.false_eq_true, if_false, if_true]
    · simp only [if_true]
  · obtain ⟨b, m, rfl⟩ : ∃ b m, l = b :: m := by cases l with | nil => exact absurd rfl hl | cons b m => exact ⟨b, m, rfl⟩
    obtain ⟨k, rfl⟩ : ∃ k, n = k + 1 := ⟨n - 1, by omega⟩
    have hs := signR_take _ h3
    have hb8 : b.toNat < 128 := by
      refine hs.2.2 b ?_
      rw [← hs.1]
      cases hg : (signR (b :: m)).length with
      | zero => exact absurd (List.length_eq_zero_iff.1 hg) h3
      | succ j => simp
    have ht : (b :: m).take (k + 1) = b :: m.take k := rfl
    have hd : decL ((b :: m).take (k + 1)) = decL (b :: m) := by rw [ht, dec_ascii b _ hb8, dec_ascii b _ hb8]
    have hsr := signR_cut (b :: m) (k + 1) h3 (by omega)
    unfold oneP
    rw [hd, hL, hD]
    simp only [Bool.false_eq_true, if_false]
    rw [sign_eq _ (by rw [ht]; simp), sign_eq _ hl, hsr]
theorem starts_take (l : List UInt8) (n : Nat) (h : starts l = true) (hn : 1 ≤ n) : starts (l.take n) = true := by
  cases l with
  | nil => cases h
  | cons b m =>
    obtain ⟨k, rfl⟩ : ∃ k, n = k + 1 := ⟨n - 1, by omega⟩
    have ht : (b :: m).take (k + 1) = b :: m.take k := rfl
    simp only [starts, Bool.and_eq_true, Bool.not_eq_true'] at h
    rw [ht]
    simp only [starts, Bool.and_eq_true, Bool.not_eq_true']
    refine ⟨h.1, ?_⟩
    cases hr : isRemark (b :: m.take k) with
    | false => rfl
    | true =>
      have h1 : isRemark (b :: m) = true := by
        unfold isRemark at hr ⊢
        rw [List.isPrefixOf_iff_prefix] at hr ⊢
        exact hr.trans (by rw [← ht]; exact List.take_prefix _ _)
      rw [h1] at h; exact absurd h.2 (by simp)
theorem remark_take (l : List UInt8) (n : Nat) (h : isRemark l = true) (hn : lineLen l ≤ n) : isRemark (l.take n) = true ∧ lineLen (l.take n) = lineLen l := by
  have h2 : 2 ≤ lineLen l := by
    unfold isRemark at h
    rw [List.isPrefixOf_iff_prefix] at h
    obtain ⟨m, rfl⟩ := h
    simp [lineLen]
  constructor
  · unfold isRemark at h ⊢
    rw [List.isPrefixOf_iff_prefix] at h ⊢
    obtain ⟨m, rfl⟩ := h
    obtain ⟨k, rfl⟩ : ∃ k, n = k + 2 := ⟨n - 2, by omega⟩
    exact ⟨m.take k, by simp⟩
  · unfold lineLen at hn ⊢
    have hpre : (l.takeWhile (· != 10)) <+: l := List.takeWhile_prefix _
    obtain ⟨m, hm⟩ := hpre
    have hall : ∀ a ∈ l.takeWhile (· != 10), (a != 10) = true := fun a ha => by
      exact mem_tw (q := fun x => x != 10) l ha
    generalize ht : l.takeWhile (· != 10) = t at *
    rw [← hm, List.take_append, List.take_of_length_le hn, List.takeWhile_append_of_pos hall, List.length_append]
    have : (List.takeWhile (fun x => x != 10) (List.take (n - t.length) m)).length = 0 := by
      rw [← hm, List.takeWhile_append_of_pos hall] at ht
      have h0 : m.takeWhile (· != 10) = [] := by simpa using ht
      cases m with
      | nil => simp
      | cons c m =>
        have hc : (c != 10) = false := by
          cases hc : (c != 10) with
          | false => rfl
          | true => rw [List.takeWhile_cons, hc] at h0; simp at h0
        cases n - t.length with
        | zero => simp
        | succ j => rw [List.take_succ_cons, List.takeWhile_cons, hc]; simp
    omega
end Go.Proofs.YtihdjofihdgigaaDoor
