/- The plain law of the word layer: what the reference computes is what the program computes. No program in sight. -/
import Derived.Test.YtdfeelmphlellaaGreatDoorPb
namespace Go.Proofs.YtdfeelmphlellaaGreatDoor
open Go.RowKit
set_option linter.unusedSimpArgs false
set_option linter.unusedVariables false

theorem p64 : (2 : Nat) ^ 64 = 18446744073709551616 := by decide
theorem two_pow_le {j : Nat} (h : j ≤ 64) : (2 : Nat) ^ j ≤ 18446744073709551616 := by
  rw [← p64]; exact Nat.pow_le_pow_right (by decide) h
theorem wu_nat (N : Nat) (h : N < 18446744073709551616) : IntKind.u64.wrap (N : Int) = N := by rw [IntKind.wrap_u64]; omega
theorem tmod_two (N j : Nat) : (((N : Int) / 2 ^ j).tmod 2) = ((N / 2 ^ j % 2 : Nat) : Int) := by
  have e : ((N : Int) / 2 ^ j) = ((N / 2 ^ j : Nat) : Int) := by simp
  rw [e, Int.tmod_eq_emod_of_nonneg (Int.natCast_nonneg _)]; exact (Int.natCast_emod _ 2).symm
theorem cast_pow (j : Nat) : ((2 : Int) ^ j) = ((2 ^ j : Nat) : Int) := by simp
theorem mod_succ (N j : Nat) : N % 2 ^ (j + 1) = N % 2 ^ j + N / 2 ^ j % 2 * 2 ^ j := by
  rw [Nat.pow_succ, Nat.mod_mul, Nat.mul_comm (2 ^ j)]
theorem bit_cases (N j : Nat) : N / 2 ^ j % 2 = 0 ∨ N / 2 ^ j % 2 = 1 := by omega

theorem rw_low (k : Int) (N : Nat) : ∀ j : Nat, (j : Int) ≤ bitsW k → j ≤ 64 → (rw k N j).1 = ((N % 2 ^ j : Nat) : Int)
  | 0, _, _ => by simp [rw, Nat.mod_one]
  | j + 1, h, h64 => by
    have ih := rw_low k N j (by omega) (by omega)
    have hlt : (j : Int) < bitsW k := by omega
    simp only [rw, hlt, if_true, ih, tmod_two]
    simp only [cast_pow]
    have hp : 2 ^ (j + 1) ≤ 18446744073709551616 := two_pow_le h64
    have hm := mod_succ N j
    have hl : N % 2 ^ (j + 1) < 2 ^ (j + 1) := Nat.mod_lt _ (Nat.two_pow_pos _)
    have hpj : 2 ^ j ≤ 2 ^ (j + 1) := Nat.pow_le_pow_right (by decide) (by omega)
    rcases bit_cases N j with hb | hb
    · rw [hb] at hm ⊢
      simp only [Nat.zero_mul, Nat.add_zero] at hm
      simp only [Int.natCast_zero, Int.zero_mul]
      rw [hm] at hl
      rw [show IntKind.u64.wrap 0 = 0 by decide, Int.add_zero, wu_nat _ (by omega), hm]
    · rw [hb] at hm ⊢
      simp only [Nat.one_mul] at hm
      simp only [Int.natCast_one, Int.one_mul]
      rw [wu_nat (2 ^ j) (by omega), ← Int.natCast_add, wu_nat _ (by omega), hm]
theorem rw_bit (k : Int) (N j : Nat) (h : (j : Int) < bitsW k) : (rw k N (j + 1)).2 = ((N / 2 ^ j % 2 : Nat) : Int) := by
  simp only [rw, h, if_true, tmod_two]
def beta (k : Int) (N B : Nat) : Nat := if sgnW k then N / 2 ^ B % 2 else 0
theorem beta_cases (k : Int) (N B : Nat) : beta k N B = 0 ∨ beta k N B = 1 := by unfold beta; split <;> omega
theorem rw_high (k : Int) (N B : Nat) (hB : bitsW k = ((B + 1 : Nat) : Int)) : ∀ d : Nat, B + 1 + d ≤ 64 →
    (rw k N (B + 1 + d)).1 = ((N % 2 ^ (B + 1) + beta k N B * (2 ^ (B + 1 + d) - 2 ^ (B + 1)) : Nat) : Int) ∧ (sgnW k = true → (rw k N (B + 1 + d)).2 = ((beta k N B : Nat) : Int))
  | 0, h => by
    refine ⟨?_, fun hs => ?_⟩
    · rw [Nat.add_zero, rw_low k N (B + 1) (by omega) h]; simp
    · rw [Nat.add_zero, rw_bit k N B (by omega)]; simp [beta, hs]
  | d + 1, h => by
    obtain ⟨ih1, ih2⟩ := rw_high k N B hB d (by omega)
    have hge : ¬ (((B + 1 + d : Nat) : Int) < bitsW k) := by omega
    have hp : 2 ^ (B + 1 + (d + 1)) ≤ 18446744073709551616 := two_pow_le h
    have hs1 : 2 ^ (B + 1 + (d + 1)) = 2 * 2 ^ (B + 1 + d) := by rw [← Nat.add_assoc, Nat.pow_succ, Nat.mul_comm]
    have hs2 : 2 ^ (B + 1) ≤ 2 ^ (B + 1 + d) := Nat.pow_le_pow_right (by decide) (by omega)
    have hl : N % 2 ^ (B + 1) < 2 ^ (B + 1) := Nat.mod_lt _ (Nat.two_pow_pos _)
    rw [show B + 1 + (d + 1) = (B + 1 + d) + 1 by omega]
    rw [show B + 1 + (d + 1) = (B + 1 + d) + 1 by omega] at hp hs1
    cases hs : sgnW k
    · have hb : beta k N B = 0 := by simp [beta, hs]
      simp only [rw, hge, if_false, hs, Bool.false_eq_true, ih1, hb, Nat.zero_mul, Nat.add_zero, Int.zero_mul]
      refine ⟨?_, fun h => h.elim⟩
      rw [show IntKind.u64.wrap 0 = 0 by decide, Int.add_zero, wu_nat _ (by omega)]
    · have ih2 := ih2 hs
      simp only [rw, hge, if_false, hs, if_true, ih1, ih2, cast_pow]
      refine ⟨?_, fun _ => trivial⟩
      rcases beta_cases k N B with hb | hb
      · rw [hb]
        simp only [Nat.zero_mul, Nat.add_zero, Int.natCast_zero, Int.zero_mul]
        rw [show IntKind.u64.wrap 0 = 0 by decide, Int.add_zero, wu_nat _ (by omega)]
      · rw [hb]
        simp only [Nat.one_mul, Int.natCast_one, Int.one_mul]
        rw [wu_nat (2 ^ (B + 1 + d)) (by omega), ← Int.natCast_add, wu_nat _ (by omega)]
        congr 1; omega
theorem rw_none (k n : Int) (hk : isW k = false) : ∀ j, rw k n j = (0, 0)
  | 0 => rfl
  | j + 1 => by
    have hb : bitsW k = 0 := by simp [isW] at hk; unfold bitsW; repeat (rw [if_neg (by omega)])
    have hs : sgnW k = false := by simp [sgnW, hk]
    have hj : ¬ ((j : Int) < 0) := by omega
    simp [rw, hb, hs, rw_none k n hk j, hj]
    decide
theorem isW_cases {k : Int} (hk : isW k = true) : k = 2 ∨ k = 3 ∨ k = 4 ∨ k = 5 ∨ k = 6 ∨ k = 7 := by simp [isW] at hk; omega
theorem rwrap_eq (k n : Int) (hk : isW k = true) (h0 : 0 ≤ n) (h1 : n ≤ 18446744073709551615) : rwrap k n = wrapW k n := by
  obtain ⟨N, rfl⟩ := Int.eq_ofNat_of_zero_le h0
  unfold rwrap
  rcases isW_cases hk with rfl | rfl | rfl | rfl | rfl | rfl
  · rw [(rw_high 2 N 7 (by decide) 56 (by decide)).1]
    simp [beta, sgnW, isW, wrapW]; omega
  · rw [(rw_high 3 N 7 (by decide) 56 (by decide)).1]
    simp [beta, sgnW, isW, wrapW]
  · rw [(rw_high 4 N 31 (by decide) 32 (by decide)).1]
    simp [beta, sgnW, isW, wrapW]; omega
  · rw [(rw_high 5 N 31 (by decide) 32 (by decide)).1]
    simp [beta, sgnW, isW, wrapW]
  · rw [rw_low 6 N 64 (by decide) (by decide)]
    simp [wrapW]; omega
  · rw [rw_low 7 N 64 (by decide) (by decide)]
    simp [wrapW]; omega
theorem rwrap_none (k n : Int) (hk : isW k = false) : rwrap k n = 0 := by simp [rwrap, rw_none k n hk]
theorem rIs_eq (k n : Int) (h0 : 0 ≤ n) (h1 : n ≤ 18446744073709551615) : rIs k n = inW k n := by
  unfold rIs inW
  cases hk : isW k
  · simp
  · rw [rwrap_eq k n hk h0 h1]
theorem rBad1_eq (k a : Int) (ha : 0 ≤ a) (ha2 : a ≤ 18446744073709551615) : rBad k [a] = checkW k [a] := by
  simp [rBad, checkW, rIs_eq k a ha ha2]
theorem rBad2_eq (k a b : Int) (ha : 0 ≤ a) (ha2 : a ≤ 18446744073709551615) (hb : 0 ≤ b) (hb2 : b ≤ 18446744073709551615) : rBad k [a, b] = checkW k [a, b] := by
  simp [rBad, checkW, rIs_eq k a ha ha2, rIs_eq k b hb hb2]

/-! ### words of a kind -/
/-- so many numbers has a kind -/
def modW (k : Int) : Int := if k = 2 ∨ k = 3 then 256 else if k = 4 ∨ k = 5 then 4294967296 else 18446744073709551616
theorem wrapW_bd (k n : Int) (h0 : 0 ≤ n) (h1 : n ≤ 18446744073709551615) : 0 ≤ wrapW k n ∧ wrapW k n ≤ 18446744073709551615 := by
  unfold wrapW; (repeat' split) <;> omega
theorem wrapW_mod (k n : Int) : wrapW k n % modW k = n % modW k := by
  unfold wrapW modW; (repeat' split) <;> omega
theorem mod_modW (k n : Int) : n % 18446744073709551616 % modW k = n % modW k := by
  unfold modW; (repeat' split) <;> omega
theorem wrapW_congr (k x y : Int) (hx : 0 ≤ x) (hx1 : x ≤ 18446744073709551615) (hy : 0 ≤ y) (hy1 : y ≤ 18446744073709551615) (h : x % modW k = y % modW k) : wrapW k x = wrapW k y := by
  unfold wrapW; unfold modW at h
  by_cases h2 : k = 2
  · simp [h2] at h ⊢; omega
  by_cases h3 : k = 3
  · simp [h3] at h ⊢; omega
  by_cases h4 : k = 4
  · simp [h4] at h ⊢; omega
  by_cases h5 : k = 5
  · simp [h5] at h ⊢; omega
  simp [h2, h3, h4, h5] at h ⊢; omega
theorem wrapW_wrapW (k n : Int) (h0 : 0 ≤ n) (h1 : n ≤ 18446744073709551615) : wrapW k (wrapW k n) = wrapW k n :=
  wrapW_congr k _ _ (wrapW_bd k n h0 h1).1 (wrapW_bd k n h0 h1).2 h0 h1 (wrapW_mod k n)
theorem inW_wrapW (k n : Int) (hk : isW k = true) (h0 : 0 ≤ n) (h1 : n ≤ 18446744073709551615) : inW k (wrapW k n) = true := by
  simp [inW, hk, wrapW_wrapW k n h0 h1]
theorem inW_eq {k n : Int} (h : inW k n = true) : isW k = true ∧ wrapW k n = n := by simpa [inW] using h
theorem checkW2 {k a b : Int} : checkW k [a, b] = 0 ↔ inW k a = true ∧ inW k b = true := by
  unfold checkW
  cases hk : isW k
  · simp [inW, hk]
  · by_cases h : inW k a = true <;> by_cases h' : inW k b = true <;> simp [h, h']
theorem checkW1 {k a : Int} : checkW k [a] = 0 ↔ inW k a = true := by
  unfold checkW
  cases hk : isW k
  · simp [inW, hk]
  · by_cases h : inW k a = true <;> simp [h]

/-! ### the sign and the size of a word -/
theorem sval_eq (k n : Int) (h0 : 0 ≤ n) (h1 : n ≤ 18446744073709551615) : sval k n = if ofNeg k n then -(ofN k n) else ofN k n := by
  unfold sval ofN ofNeg wrap64
  rw [IntKind.wrap_u64]
  cases hs : sgnW k
  · simp
  · by_cases h : 9223372036854775808 ≤ n
    · simp [h]; omega
    · simp [h]; omega
theorem sval_mod (k n : Int) (h0 : 0 ≤ n) (h1 : n ≤ 18446744073709551615) : sval k n % 18446744073709551616 = n := by
  unfold sval wrap64; split <;> omega
theorem sval_neg (k n : Int) (h0 : 0 ≤ n) (h1 : n ≤ 18446744073709551615) : ofNeg k n = decide (sval k n < 0) := by
  unfold sval ofNeg wrap64
  cases hs : sgnW k
  · simp; omega
  · simp; omega
theorem ofN_pos (k n : Int) (h0 : 0 ≤ n) (h1 : n ≤ 18446744073709551615) : 0 ≤ ofN k n := by
  unfold ofN; split
  · rw [IntKind.wrap_u64]; omega
  · exact h0
theorem ofN_abs (k n : Int) (h0 : 0 ≤ n) (h1 : n ≤ 18446744073709551615) : ofN k n = if sval k n < 0 then -(sval k n) else sval k n := by
  have h := sval_eq k n h0 h1
  have hn := sval_neg k n h0 h1
  have hp := ofN_pos k n h0 h1
  cases hs : ofNeg k n
  · rw [hs] at h hn
    simp at h hn
    rw [if_neg (by omega)]; omega
  · rw [hs] at h hn
    simp at h hn
    rw [if_pos (by omega)]; omega
theorem neg_mod (x m : Int) : (-(x % m)) % m = (-x) % m := by
  have h := Int.emod_add_mul_ediv x m
  have e : -(x % m) = -x + m * (x / m) := by omega
  rw [e, Int.add_mul_emod_self_left]
theorem mod_mul (x y m : Int) : (x % m * y) % m = (x * y) % m := by
  rw [Int.mul_emod, Int.emod_emod, ← Int.mul_emod]
theorem mul_mod (x y m : Int) : (x * (y % m)) % m = (x * y) % m := by
  rw [Int.mul_comm, mod_mul, Int.mul_comm]
theorem sgnd_eq (s : Bool) (n : Int) (h0 : 0 ≤ n) (h1 : n ≤ 18446744073709551615) : sgnd s n = (if s then -n else n) % 18446744073709551616 := by
  unfold sgnd; split
  · rw [IntKind.wrap_u64]
  · omega
theorem ofN_zero (k n : Int) (h0 : 0 ≤ n) (h1 : n ≤ 18446744073709551615) : ofN k n = 0 ↔ n = 0 := by
  unfold ofN ofNeg; rw [IntKind.wrap_u64]
  cases hs : sgnW k <;> by_cases h : 9223372036854775808 ≤ n <;> simp [h] <;> omega
theorem raw_mul (k a b : Int) (ha : 0 ≤ a) (ha2 : a ≤ 18446744073709551615) (hb : 0 ≤ b) (hb2 : b ≤ 18446744073709551615) : rRaw k 3 a b = rawW k 3 a b := by
  simp only [rRaw, rawW]
  rw [sgnd_eq _ _ (by rw [IntKind.wrap_u64]; omega) (by rw [IntKind.wrap_u64]; omega), IntKind.wrap_u64]
  have ea := sval_eq k a ha ha2
  have eb := sval_eq k b hb hb2
  have ma := sval_mod k a ha ha2
  have mb := sval_mod k b hb hb2
  have h : (sval k a * sval k b) % 18446744073709551616 = (a * b) % 18446744073709551616 := by
    rw [Int.mul_emod, ma, mb]
  rw [← h, ea, eb]
  cases ofNeg k a <;> cases ofNeg k b <;> simp [neg_mod, Int.neg_mul, Int.mul_neg]
theorem raw_quo (k a b : Int) (ha : 0 ≤ a) (ha2 : a ≤ 18446744073709551615) (hb : 0 ≤ b) (hb2 : b ≤ 18446744073709551615) : rRaw k 4 a b = rawW k 4 a b := by
  simp only [rRaw, rawW]
  have hA := ofN_pos k a ha ha2
  have hB := ofN_pos k b hb hb2
  have hA1 : ofN k a ≤ 18446744073709551615 := by unfold ofN; split; (rw [IntKind.wrap_u64]; omega); exact ha2
  have hq0 : 0 ≤ ofN k a / ofN k b := Int.ediv_nonneg hA hB
  have hq1 : ofN k a / ofN k b ≤ ofN k a := Int.ediv_le_self _ hA
  rw [sgnd_eq _ _ hq0 (by omega), sval_eq k a ha ha2, sval_eq k b hb hb2, ← Int.tdiv_eq_ediv_of_nonneg hA]
  cases ofNeg k a <;> cases ofNeg k b <;> simp [Int.neg_tdiv, Int.tdiv_neg]
theorem raw_rem (k a b : Int) (ha : 0 ≤ a) (ha2 : a ≤ 18446744073709551615) (hb : 0 ≤ b) (hb2 : b ≤ 18446744073709551615) : rRaw k 5 a b = rawW k 5 a b := by
  simp only [rRaw, rawW]
  have hA := ofN_pos k a ha ha2
  have hB := ofN_pos k b hb hb2
  have hA1 : ofN k a ≤ 18446744073709551615 := by unfold ofN; split; (rw [IntKind.wrap_u64]; omega); exact ha2
  have e1 := Int.emod_add_mul_ediv (ofN k a) (ofN k b)
  have hm : ofN k a / ofN k b * ofN k b = ofN k b * (ofN k a / ofN k b) := Int.mul_comm _ _
  have hp : 0 ≤ ofN k b * (ofN k a / ofN k b) := Int.mul_nonneg hB (Int.ediv_nonneg hA hB)
  have hr : 0 ≤ ofN k a % ofN k b := by
    by_cases h0 : ofN k b = 0
    · rw [h0, Int.emod_zero]; exact hA
    · exact Int.emod_nonneg _ h0
  have e2 : IntKind.u64.wrap (ofN k a - IntKind.u64.wrap (ofN k a / ofN k b * ofN k b)) = ofN k a % ofN k b := by
    rw [IntKind.wrap_u64, IntKind.wrap_u64, hm]; omega
  rw [e2, sgnd_eq _ _ hr (by omega), sval_eq k a ha ha2, sval_eq k b hb hb2, ← Int.tmod_eq_emod_of_nonneg hA]
  cases ofNeg k a <;> cases ofNeg k b <;> simp [Int.neg_tmod, Int.tmod_neg]
/-- bit by bit -/
theorem bit_test (A j : Nat) : ((((A : Int) / 2 ^ j).tmod 2) == 1) = A.testBit j := by
  rw [tmod_two, Nat.testBit_eq_decide_div_mod_eq]
  rcases bit_cases A j with h | h <;> simp [h]
theorem rbw_eq (c A B X : Nat) (hX : X < 18446744073709551616) (h : ∀ j, j < 64 → X.testBit j = rbit c (A.testBit j) (B.testBit j)) : ∀ j, j ≤ 64 → rbw c A B j = ((X % 2 ^ j : Nat) : Int)
  | 0, _ => by simp [rbw, Nat.mod_one]
  | j + 1, hj => by
    have ih := rbw_eq c A B X hX h j (by omega)
    have hm := mod_succ X j
    have hp : 2 ^ (j + 1) ≤ 18446744073709551616 := two_pow_le hj
    have hl : X % 2 ^ (j + 1) < 2 ^ (j + 1) := Nat.mod_lt _ (Nat.two_pow_pos _)
    have hpj : 2 ^ j ≤ 2 ^ (j + 1) := Nat.pow_le_pow_right (by decide) (by omega)
    have ht := h j (by omega)
    rw [Nat.testBit_eq_decide_div_mod_eq] at ht
    unfold rbw
    rw [bit_test, bit_test, ← ht, ih]
    rcases bit_cases X j with hb | hb
    · rw [hb] at hm ⊢
      simp only [Nat.zero_mul, Nat.add_zero] at hm
      rw [if_neg (by decide), hm]
    · rw [hb] at hm ⊢
      simp only [Nat.one_mul] at hm
      rw [if_pos (by decide)]
      simp only [cast_pow]
      rw [wu_nat (2 ^ j) (by omega), ← Int.natCast_add, wu_nat _ (by omega), hm]
theorem bv_test (A j : Nat) (h : j < 64) : (BitVec.ofInt 64 (A : Int)).getLsbD j = A.testBit j := by
  rw [BitVec.ofInt_natCast, BitVec.getLsbD_ofNat]; simp [h]
theorem raw_bits (c : Nat) (op : BinOp) (hop : (c = 6 ∧ op = .and) ∨ (c = 7 ∧ op = .or) ∨ (c = 8 ∧ op = .xor) ∨ (c = 9 ∧ op = .andNot)) (a b : Int) (ha : 0 ≤ a) (ha2 : a ≤ 18446744073709551615) (hb : 0 ≤ b) (hb2 : b ≤ 18446744073709551615) : rbw c a b 64 = bits op .u64 a b := by
  obtain ⟨A, rfl⟩ := Int.eq_ofNat_of_zero_le ha
  obtain ⟨B, rfl⟩ := Int.eq_ofNat_of_zero_le hb
  have key : ∀ V : BitVec 64, (∀ j, j < 64 → V.getLsbD j = rbit c (A.testBit j) (B.testBit j)) → rbw c A B 64 = IntKind.u64.wrap (V.toNat : Int) := by
    intro V hV
    have hlt : V.toNat < 18446744073709551616 := by rw [← p64]; exact V.isLt
    rw [rbw_eq c A B V.toNat hlt (fun j hj => by rw [BitVec.testBit_toNat]; exact hV j hj) 64 (by decide), wu_nat _ hlt, p64, Nat.mod_eq_of_lt hlt]
  rcases hop with ⟨rfl, rfl⟩ | ⟨rfl, rfl⟩ | ⟨rfl, rfl⟩ | ⟨rfl, rfl⟩
  · exact key (BitVec.ofInt 64 (A : Int) &&& BitVec.ofInt 64 (B : Int)) fun j hj => by rw [BitVec.getLsbD_and, bv_test A j hj, bv_test B j hj]; rfl
  · exact key (BitVec.ofInt 64 (A : Int) ||| BitVec.ofInt 64 (B : Int)) fun j hj => by rw [BitVec.getLsbD_or, bv_test A j hj, bv_test B j hj]; rfl
  · exact key (BitVec.ofInt 64 (A : Int) ^^^ BitVec.ofInt 64 (B : Int)) fun j hj => by rw [BitVec.getLsbD_xor, bv_test A j hj, bv_test B j hj]; rfl
  · exact key (BitVec.ofInt 64 (A : Int) &&& ~~~ BitVec.ofInt 64 (B : Int)) fun j hj => by rw [BitVec.getLsbD_and, BitVec.getLsbD_not, bv_test A j hj, bv_test B j hj]; simp [hj, rbit]
theorem raw_eq (k a b : Int) (c : Nat) (hc : 1 ≤ c) (hc9 : c ≤ 9) (ha : 0 ≤ a) (ha2 : a ≤ 18446744073709551615) (hb : 0 ≤ b) (hb2 : b ≤ 18446744073709551615) : rRaw k c a b = rawW k c a b := by
  have h : c = 1 ∨ c = 2 ∨ c = 3 ∨ c = 4 ∨ c = 5 ∨ c = 6 ∨ c = 7 ∨ c = 8 ∨ c = 9 := by omega
  rcases h with rfl | rfl | rfl | rfl | rfl | rfl | rfl | rfl | rfl
  · simp only [rRaw, rawW, IntKind.wrap_u64]
  · simp only [rRaw, rawW, IntKind.wrap_u64]; omega
  · exact raw_mul k a b ha ha2 hb hb2
  · exact raw_quo k a b ha ha2 hb hb2
  · exact raw_rem k a b ha ha2 hb hb2
  · exact raw_bits 6 .and (by simp) a b ha ha2 hb hb2
  · exact raw_bits 7 .or (by simp) a b ha ha2 hb hb2
  · exact raw_bits 8 .xor (by simp) a b ha ha2 hb hb2
  · exact raw_bits 9 .andNot (by simp) a b ha ha2 hb hb2
theorem rRaw_bd (k a b : Int) (c : Nat) (hc : 1 ≤ c) (hc9 : c ≤ 9) (ha : 0 ≤ a) (ha2 : a ≤ 18446744073709551615) (hb : 0 ≤ b) (hb2 : b ≤ 18446744073709551615) : 0 ≤ rawW k c a b ∧ rawW k c a b ≤ 18446744073709551615 := by
  have h : c = 1 ∨ c = 2 ∨ c = 3 ∨ c = 4 ∨ c = 5 ∨ c = 6 ∨ c = 7 ∨ c = 8 ∨ c = 9 := by omega
  rcases h with rfl | rfl | rfl | rfl | rfl | rfl | rfl | rfl | rfl
  · simp only [rawW]; omega
  · simp only [rawW]; omega
  · simp only [rawW]; omega
  · simp only [rawW]; omega
  · simp only [rawW]; omega
  all_goals
    rw [← raw_eq k a b _ hc hc9 ha ha2 hb hb2]
    simp only [rRaw]
    exact rbw_bd _ a b 64
theorem arithErr_eq (k a b : Int) (c : Nat) (ha : 0 ≤ a) (ha2 : a ≤ 18446744073709551615) (hb : 0 ≤ b) (hb2 : b ≤ 18446744073709551615) : rArithErr k c a b = arithErr k c a b := by
  unfold rArithErr arithErr
  rw [rBad2_eq k a b ha ha2 hb hb2]
  simp only [ofN_zero k b hb hb2]
theorem arithW_eq (k a b : Int) (c : Nat) (ha : 0 ≤ a) (ha2 : a ≤ 18446744073709551615) (hb : 0 ≤ b) (hb2 : b ≤ 18446744073709551615) : rArith k c a b = arithW k c a b := by
  unfold rArith arithW resW
  rw [arithErr_eq k a b c ha ha2 hb hb2]
  split
  · rename_i he
    have h : ¬ (c = 0 ∨ 10 ≤ c) := by intro h; simp [arithErr, h] at he
    have hch : checkW k [a, b] = 0 := by
      unfold arithErr at he; rw [if_neg h] at he
      split at he
      · assumption
      · exact he
    have hk : isW k = true := (inW_eq (checkW2.1 hch).1).1
    rw [raw_eq k a b c (by omega) (by omega) ha ha2 hb hb2]
    have hbd := rRaw_bd k a b c (by omega) (by omega) ha ha2 hb hb2
    exact rwrap_eq k _ hk hbd.1 hbd.2
  · rfl

/-! ### shifts -/
theorem rsh_shl (k a : Int) (hk : isW k = true) (ha : 0 ≤ a) (ha2 : a ≤ 18446744073709551615) (hin : inW k a = true) : ∀ j, rsh k 10 a j = wrapW k (a * 2 ^ j % 18446744073709551616)
  | 0 => by
    have h := (inW_eq hin).2
    simp only [rsh, Int.pow_zero, Int.mul_one]
    rw [Int.emod_eq_of_lt ha (by omega), h]
  | j + 1 => by
    have ih := rsh_shl k a hk ha ha2 hin j
    have hy : 0 ≤ a * 2 ^ j % 18446744073709551616 ∧ a * 2 ^ j % 18446744073709551616 ≤ 18446744073709551615 := by omega
    have hx := wrapW_bd k _ hy.1 hy.2
    have hm := wrapW_mod k (a * 2 ^ j % 18446744073709551616)
    simp only [rsh, rstep, if_true, ih]
    rw [rwrap_eq k _ hk (by rw [IntKind.wrap_u64]; omega) (by rw [IntKind.wrap_u64]; omega), IntKind.wrap_u64]
    refine wrapW_congr k _ _ (by omega) (by omega) (by omega) (by omega) ?_
    rw [mod_modW, mod_modW, Int.add_emod, hm, mod_modW, ← Int.add_emod, Int.pow_succ, ← Int.mul_assoc]
    rw [show ∀ x : Int, x * 2 = x + x from fun x => by omega]
theorem rstep_shr (k x : Int) (h0 : 0 ≤ x) (h1 : x ≤ 18446744073709551615) : (0 ≤ rstep k 11 x ∧ rstep k 11 x ≤ 18446744073709551615) ∧ sval k (rstep k 11 x) = sval k x / 2 := by
  unfold rstep sval ofNeg wrap64
  rw [if_neg (by decide), IntKind.wrap_u64]
  cases hs : sgnW k
  · simp; omega
  · by_cases h : 9223372036854775808 ≤ x
    · simp [h]; omega
    · simp [h]; omega
theorem rsh_shr (k a : Int) (ha : 0 ≤ a) (ha2 : a ≤ 18446744073709551615) : ∀ j, (0 ≤ rsh k 11 a j ∧ rsh k 11 a j ≤ 18446744073709551615) ∧ sval k (rsh k 11 a j) = sval k a / 2 ^ j
  | 0 => ⟨⟨ha, ha2⟩, by simp [rsh]⟩
  | j + 1 => by
    obtain ⟨hb, ih⟩ := rsh_shr k a ha ha2 j
    obtain ⟨hb', h'⟩ := rstep_shr k _ hb.1 hb.2
    refine ⟨hb', ?_⟩
    simp only [rsh]
    rw [h', ih, Int.pow_succ, Int.ediv_ediv_of_nonneg (Int.le_of_lt (Int.pow_pos (by decide)))]
def loW (k : Int) : Int := if sgnW k then -(modW k / 2) else 0
def hiW (k : Int) : Int := if sgnW k then modW k / 2 - 1 else modW k - 1
theorem sval_range (k a : Int) (hk : isW k = true) (ha : 0 ≤ a) (ha2 : a ≤ 18446744073709551615) : inW k a = true ↔ (loW k ≤ sval k a ∧ sval k a ≤ hiW k) := by
  rcases isW_cases hk with rfl | rfl | rfl | rfl | rfl | rfl <;> simp [inW, loW, hiW, sval, wrap64, wrapW, modW, sgnW, isW] <;> omega
theorem sval_of (k s : Int) (hk : isW k = true) (h0 : loW k ≤ s) (h1 : s ≤ hiW k) : sval k (s % 18446744073709551616) = s := by
  rcases isW_cases hk with rfl | rfl | rfl | rfl | rfl | rfl <;> simp [loW, hiW, sval, wrap64, modW, sgnW, isW] at h0 h1 ⊢ <;> omega
theorem wrapW_of (k s : Int) (hk : isW k = true) (h0 : loW k ≤ s) (h1 : s ≤ hiW k) : wrapW k (s % 18446744073709551616) = s % 18446744073709551616 := by
  have h := (sval_range k (s % 18446744073709551616) hk (by omega) (by omega)).2 (by rw [sval_of k s hk h0 h1]; exact ⟨h0, h1⟩)
  exact (inW_eq h).2
theorem lo_nonpos (k : Int) : loW k ≤ 0 := by unfold loW modW; (repeat' split) <;> omega
theorem hi_nonneg (k : Int) : 0 ≤ hiW k := by unfold hiW modW; (repeat' split) <;> omega
theorem half_range (k s : Int) (j : Nat) (h0 : loW k ≤ s) (h1 : s ≤ hiW k) : loW k ≤ s / 2 ^ j ∧ s / 2 ^ j ≤ hiW k := by
  have hp : (0 : Int) < 2 ^ j := Int.pow_pos (by decide)
  have hl := lo_nonpos k
  have hh := hi_nonneg k
  by_cases hs : 0 ≤ s
  · have h2 : s / 2 ^ j ≤ s := Int.ediv_le_self _ hs
    have h3 : 0 ≤ s / 2 ^ j := Int.ediv_nonneg hs (Int.le_of_lt hp)
    omega
  · have h2 : s ≤ s / 2 ^ j := by
      rw [Int.le_ediv_iff_mul_le hp]
      have h := Int.mul_nonneg (a := -s) (b := 2 ^ j - 1) (by omega) (by omega)
      rw [Int.mul_sub, Int.neg_mul, Int.mul_one] at h
      omega
    have h3 : s / 2 ^ j < 0 := Int.ediv_neg_of_neg_of_pos (by omega) hp
    omega
theorem shiftErr_eq (k a b n : Int) (c : Nat) (ha : 0 ≤ a) (ha2 : a ≤ 18446744073709551615) (hn : 0 ≤ n) (hn2 : n ≤ 18446744073709551615) : rShiftErr k c a b n = shiftErr k c a b n := by
  unfold rShiftErr shiftErr
  rw [rIs_eq k a ha ha2, rIs_eq b n hn hn2, sval_neg b n hn hn2]
  simp
theorem shiftW_eq (k a b n : Int) (c : Nat) (ha : 0 ≤ a) (ha2 : a ≤ 18446744073709551615) (hn : 0 ≤ n) (hn2 : n ≤ 18446744073709551615) : rShift k c a b n = resW (shiftErr k c a b n) (wrapW k (shiftRaw k c a n)) := by
  unfold rShift resW
  rw [shiftErr_eq k a b n c ha ha2 hn hn2]
  split
  · rename_i he
    unfold shiftErr at he
    split at he
    · rename_i hc
      obtain ⟨hc, hk, hb⟩ := hc
      split at he
      · rename_i hin
        have hia : inW k a = true := by simp at hin; exact hin.1
        rcases hc with rfl | rfl
        · rw [rsh_shl k a hk ha ha2 hia]; rfl
        · obtain ⟨hbd, hs⟩ := rsh_shr k a ha ha2 (min n.toNat 64)
          have hr := (sval_range k a hk ha ha2).1 hia
          have hh := half_range k (sval k a) (min n.toNat 64) hr.1 hr.2
          have e : shiftRaw k 11 a n = sval k a / 2 ^ min n.toNat 64 % 18446744073709551616 := by simp [shiftRaw]
          rw [e, wrapW_of k _ hk hh.1 hh.2, ← hs, sval_mod k _ hbd.1 hbd.2]
      · omega
    · omega
  · rfl
end Go.Proofs.YtdfeelmphlellaaGreatDoor
