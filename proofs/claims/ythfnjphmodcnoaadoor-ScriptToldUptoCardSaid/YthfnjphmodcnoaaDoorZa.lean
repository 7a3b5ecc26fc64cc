/- Plain laws of numerals: the decimal and the hexadecimal digits of a number are read as it. No program in sight. -/
import Derived.Test.YthfnjphmodcnoaaDoorTf
import Derived.Test.YthfnjphmodcnoaaDoorTd
import Derived.Lib.ItoaNum
namespace Go.Proofs.YthfnjphmodcnoaaDoor
set_option linter.unusedSimpArgs false
set_option linter.unusedVariables false

theorem decd_step {u : Nat} (h : ¬ u < 10) : Lib.decDigits u = Lib.decDigits (u / 10) ++ [UInt8.ofNat (48 + u % 10)] := by rw [Lib.decDigits, dif_neg h]
theorem dig_nat (k : Nat) (h : k < 10) : (UInt8.ofNat (48 + k)).toNat = 48 + k := by
  have e : (UInt8.ofNat (48 + k)).toNat = (48 + k) % 256 := by simp
  rw [e]; omega
theorem dec_digs (u : Nat) : ∀ b ∈ Lib.decDigits u, 48 ≤ b.toNat ∧ b.toNat ≤ 57 := by
  induction u using Nat.strongRecOn with
  | _ u ih =>
    by_cases h : u < 10
    · rw [Lib.decDigits_one h]
      intro b hb
      obtain rfl := List.mem_singleton.1 hb
      rw [dig_nat u h]; omega
    · rw [decd_step h]
      intro b hb
      rcases List.mem_append.1 hb with hb | hb
      · exact ih (u / 10) (by omega) b hb
      · obtain rfl := List.mem_singleton.1 hb
        rw [dig_nat _ (by omega)]; omega
theorem dec_ne (u : Nat) : Lib.decDigits u ≠ [] := by
  intro h
  have := Lib.decDigits_length u
  rw [h] at this
  have := Lib.nDigits_pos u
  simp at *; omega
theorem digVal_dec (hex : Bool) (b : UInt8) (h : 48 ≤ b.toNat ∧ b.toNat ≤ 57) : digVal hex b = some (b.toNat - 48) := by
  unfold digVal; rw [if_pos h]
theorem dec_val (u : Nat) : valFrom false 0 (Lib.decDigits u) = some u := by
  induction u using Nat.strongRecOn with
  | _ u ih =>
    by_cases h : u < 10
    · rw [Lib.decDigits_one h, valFrom_some _ _ _ _ _ (digVal_dec _ _ (by rw [dig_nat u h]; omega)), dig_nat u h]
      simp [valFrom]
    · have hd := dig_nat (u % 10) (by omega)
      rw [decd_step h, valFrom_app, ih (u / 10) (by omega)]
      show valFrom false (u / 10) _ = _
      rw [valFrom_some _ _ _ _ _ (digVal_dec _ _ (by rw [hd]; omega)), hd]
      simp only [valFrom, baseN, Bool.false_eq_true, if_false]
      congr 1; omega
theorem dec_head : ∀ (u : Nat), u ≠ 0 → (Lib.decDigits u).head? ≠ some 48 := by
  intro u
  induction u using Nat.strongRecOn with
  | _ u ih =>
    intro h0
    by_cases h : u < 10
    · rw [Lib.decDigits_one h]
      intro e
      have e1 : UInt8.ofNat (48 + u) = 48 := by simpa using e
      have := congrArg UInt8.toNat e1
      rw [dig_nat u h] at this
      have e2 : (48 : UInt8).toNat = 48 := rfl
      omega
    · rw [decd_step h]
      have hn := dec_ne (u / 10)
      have := ih (u / 10) (by omega) (by omega)
      cases hd : Lib.decDigits (u / 10) with
      | nil => exact absurd hd hn
      | cons b m => rw [hd] at this; simpa using this
theorem dec_nz (u : Nat) : badZero (Lib.decDigits u) = false := by
  by_cases h : u = 0
  · subst h; rw [Lib.decDigits_one (by omega)]; rfl
  · have := dec_head u h
    cases hd : Lib.decDigits u with
    | nil => rfl
    | cons b m =>
      rw [hd] at this
      have hb : b ≠ 48 := by simpa using this
      rw [badZero_iff]
      simp [hb]
theorem nohex_of (l m : List UInt8) (hl : l ≠ []) (h : ∀ b ∈ l, 48 ≤ b.toNat ∧ b.toNat ≤ 57) (hm : m.head? ≠ some 120) : isHex (l ++ m) = false := by
  rw [isHex_iff]
  match l, hl with
  | [a], _ =>
    cases m with
    | nil => simp
    | cons b m =>
      have : b ≠ 120 := by simpa using hm
      simp [this]
  | a :: b :: l, _ =>
    have hb := h b (by simp)
    have : b ≠ 120 := by rintro rfl; exact absurd hb.2 (by decide)
    simp [this]
theorem dec_nohex (u : Nat) : isHex (Lib.decDigits u) = false := by
  have := nohex_of (Lib.decDigits u) [] (dec_ne u) (dec_digs u) (by simp)
  simpa using this
theorem num_tens (u : Nat) (h : u < 18446744073709551616) : numP (Lib.decDigits u) = (u, 0) := by
  have hD : digitsOf (Lib.decDigits u) = Lib.decDigits u := by simp [digitsOf, dec_nohex]
  rw [numP_ok _ u (by rw [hD, dec_nohex]; exact dec_val u) (.inr (dec_nz u)) (by rw [hD]; exact dec_ne u), if_pos h]
theorem num_zeroten (u : Nat) : numP (48 :: Lib.decDigits u) = (0, 4) := by
  refine numP_zero _ ?_ ?_
  · exact nohex_of [48] (Lib.decDigits u) (by simp) (by simp) (by
      have h := dec_digs u
      cases hd : Lib.decDigits u with
      | nil => simp
      | cons b m =>
        have hb := h b (by rw [hd]; simp)
        intro e
        have : b = 120 := by simpa using e
        subst this
        exact absurd hb.2 (by decide))
  · cases hd : Lib.decDigits u with
    | nil => exact absurd hd (dec_ne u)
    | cons b m => rfl
theorem num_tenz (u : Nat) : numP (Lib.decDigits u ++ [122]) = (0, 4) := by
  have hx : isHex (Lib.decDigits u ++ [122]) = false := nohex_of _ [122] (dec_ne u) (dec_digs u) (by decide)
  have hD : digitsOf (Lib.decDigits u ++ [122]) = Lib.decDigits u ++ [122] := by simp [digitsOf, hx]
  refine numP_bad _ ?_
  rw [hx, hD, valFrom_app, dec_val]
  show valFrom false u [122] = none
  exact valFrom_none _ _ _ _ (by decide)

/-! ### sixteens -/
def hexc (k : Nat) : UInt8 := if k < 10 then UInt8.ofNat (48 + k) else UInt8.ofNat (87 + k)
def hexD (n : Nat) : List UInt8 := if n < 16 then [hexc n] else hexD (n / 16) ++ [hexc (n % 16)]
termination_by n
decreasing_by omega
theorem hexD_one {n : Nat} (h : n < 16) : hexD n = [hexc n] := by rw [hexD, if_pos h]
theorem hexD_step {n : Nat} (h : ¬ n < 16) : hexD n = hexD (n / 16) ++ [hexc (n % 16)] := by rw [hexD, if_neg h]
theorem hexc_val : ∀ k : Fin 16, digVal true (hexc k.val) = some k.val := by decide
theorem hexD_ne (n : Nat) : hexD n ≠ [] := by
  by_cases h : n < 16
  · rw [hexD_one h]; simp
  · rw [hexD_step h]; simp
theorem hexD_val (u : Nat) : valFrom true 0 (hexD u) = some u := by
  induction u using Nat.strongRecOn with
  | _ u ih =>
    by_cases h : u < 16
    · rw [hexD_one h, valFrom_some _ _ _ _ _ (hexc_val ⟨u, h⟩)]
      simp [valFrom]
    · rw [hexD_step h, valFrom_app, ih (u / 16) (by omega)]
      show valFrom true (u / 16) _ = _
      rw [valFrom_some _ _ _ _ _ (hexc_val ⟨u % 16, by omega⟩)]
      simp only [valFrom, baseN, if_true]
      congr 1; omega
theorem hexD_le (m : Nat) : ∀ n : Nat, n < 16 ^ m → (hexD n).length ≤ m ∨ n = 0 := by
  induction m with
  | zero => intro n h; exact .inr (by simpa using h)
  | succ m ih =>
    intro n h
    by_cases h1 : n < 16
    · rw [hexD_one h1]; exact .inl (by simp)
    · rw [hexD_step h1]
      rcases ih (n / 16) (by rw [Nat.pow_succ] at h; omega) with h2 | h2
      · exact .inl (by simp; omega)
      · omega
theorem hexD_len (n : Nat) (h : n < 18446744073709551616) : (hexD n).length ≤ 16 := by
  rcases hexD_le 16 n (by simpa using h) with h | rfl
  · exact h
  · rw [hexD_one (by omega)]; simp
theorem num_hexs (u : Nat) (h : u < 18446744073709551616) : numP (48 :: 120 :: hexD u) = (u, 0) := by
  rw [numP_ok (48 :: 120 :: hexD u) u (show valFrom true 0 (hexD u) = some u from hexD_val u) (.inl rfl) (show hexD u ≠ [] from hexD_ne u), if_pos h]
theorem hexc_in : ∀ k : Fin 16, (⟨#[48, 49, 50, 51, 52, 53, 54, 55, 56, 57, 97, 98, 99, 100, 101, 102]⟩ : ByteArray).extract k.val (k.val + 1) = ⟨#[hexc k.val]⟩ := by decide

/-! ### the tokens of a numeral -/
theorem dig_ld (b : UInt8) (h : 48 ≤ b.toNat ∧ b.toNat ≤ 57) : isDig (b.toNat : Int) = true ∧ isLD (b.toNat : Int) = true ∧ isLet (b.toNat : Int) = false := by
  have h1 : isDig (b.toNat : Int) = true := by simp [isDig]; omega
  refine ⟨h1, by simp [isLD, h1], ?_⟩
  cases hl : isLet (b.toNat : Int) with
  | false => rfl
  | true => rw [let_not_dig hl] at h1; cases h1
theorem run_digs : ∀ (l : List UInt8), (∀ b ∈ l, 48 ≤ b.toNat ∧ b.toNat ≤ 57) → runL l = l.length ∧ wholeL l = l.length
  | [], _ => ⟨runL_nil, wholeL_nil⟩
  | b :: l, h => by
    have hb := h b (by simp)
    have hd := dec_ascii b l (by omega)
    have ih := run_digs l (fun c hc => h c (by simp [hc]))
    constructor
    · rw [runL_yes b l (by rw [hd]; exact (dig_ld b hb).2.1), hd]
      show 1 + runL l = l.length + 1
      omega
    · rw [wholeL_yes b l (by unfold broken; rw [hd]; simp; omega), hd]
      show 1 + wholeL l = l.length + 1
      omega
theorem tokens_tens (u : Nat) (h : u < 18446744073709551616) : tokensP (Lib.decDigits u) = .ok [⟨2, Lib.decDigits u, u, 0⟩, ⟨5, [], 0, (Lib.decDigits u).length⟩] := by
  have hn := num_tens u h
  have hg := dec_digs u
  have hne := dec_ne u
  have hlen : (Lib.decDigits u).length ≤ 65536 := by
    rw [Lib.decDigits_length]
    by_cases h1 : 1 ≤ u
    · have := Lib.numDigits_eq u h1 h; split at this <;> omega
    · have : u = 0 := by omega
      subst this; rw [Lib.nDigits_small (by omega)]; omega
  generalize Lib.decDigits u = l at *
  obtain ⟨hr, hw⟩ := run_digs l hg
  cases l with
  | nil => exact absurd rfl hne
  | cons b m =>
    have hb := hg b (by simp)
    have hd := dec_ascii b m (by omega)
    have hld := dig_ld b hb
    have ho : oneP (b :: m) 0 = (⟨2, b :: m, u, 0⟩, (b :: m).length, 0) := by
      unfold oneP
      rw [hr, List.take_length, hn, hd]
      simp only [hld.2.2, hld.1, Bool.false_eq_true, if_false, if_true]
    have hst : starts (b :: m) = true := by
      have h1 : (b == 10) = false := by rw [beq_eq_false_iff_ne]; rintro rfl; exact absurd hb.1 (by decide)
      have h2 : isBlank b = false := by
        unfold isBlank
        have : b ≠ 9 := by rintro rfl; exact absurd hb.1 (by decide)
        have : b ≠ 13 := by rintro rfl; exact absurd hb.1 (by decide)
        have : b ≠ 32 := by rintro rfl; exact absurd hb.1 (by decide)
        simp [*]
      have h3 : isRemark (b :: m) = false := by
        have : (47 == b) = false := by rw [beq_eq_false_iff_ne]; rintro rfl; exact absurd hb.1 (by decide)
        simp [isRemark, List.isPrefixOf, this]
      simp [starts, h1, h2, h3]
    unfold tokensP
    rw [if_neg (by omega), hw, if_neg (by omega), lex_tok _ _ _ _ hst, ho]
    show (if _ then _ else if _ then _ else consR _ (lex ((b :: m).drop (b :: m).length) (0 + (b :: m).length) _ (0 + 1))) = _
    rw [if_neg (fun h => h rfl), if_neg (by decide), List.drop_length, lex_nil]
    have hc : closesP ⟨2, b :: m, (u : Int), 0⟩ = true := rfl
    rw [hc, if_pos rfl, if_neg (by decide), Nat.zero_add]
    rfl
end Go.Proofs.YthfnjphmodcnoaaDoor
