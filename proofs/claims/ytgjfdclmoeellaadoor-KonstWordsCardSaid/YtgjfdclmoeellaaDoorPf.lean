/- Plain lemmas for the law WordSteps: shifts one after the other, and the operators on bits told by one another. No program in sight. -/
import Derived.Test.YtgjfdclmoeellaaDoorPd
namespace Go.Proofs.YtgjfdclmoeellaaDoor
open Go.RowKit
set_option linter.unusedSimpArgs false
set_option linter.unusedVariables false

theorem shl_cap (a : Int) (i : Nat) : a * 2 ^ (min i 64) % 18446744073709551616 = a * 2 ^ i % 18446744073709551616 := by
  by_cases h : i ≤ 64
  · rw [Nat.min_eq_left h]
  · have e : min i 64 = 64 := by omega
    have e2 : i = 64 + (i - 64) := by omega
    rw [e]
    conv => rhs; rw [e2, Int.pow_add, ← Int.mul_assoc, Int.mul_comm a, Int.mul_assoc]
    have e3 : (2 : Int) ^ 64 = 18446744073709551616 := by decide
    rw [e3, Int.mul_emod_left, Int.mul_emod_right]
theorem div_cap (s : Int) (h0 : -18446744073709551616 ≤ s) (h1 : s < 18446744073709551616) (i : Nat) : s / 2 ^ (min i 64) = s / 2 ^ i := by
  by_cases h : i ≤ 64
  · rw [Nat.min_eq_left h]
  · have e : min i 64 = 64 := by omega
    have e2 : i = 64 + (i - 64) := by omega
    have e3 : (2 : Int) ^ 64 = 18446744073709551616 := by decide
    have hp : (0 : Int) < 2 ^ (i - 64) := Int.pow_pos (by decide)
    rw [e]
    conv => rhs; rw [e2, Int.pow_add, ← Int.ediv_ediv_of_nonneg (by decide)]
    rw [e3]
    have hq : s / 18446744073709551616 = 0 ∨ s / 18446744073709551616 = -1 := by omega
    rcases hq with hq | hq
    · rw [hq, Int.zero_ediv]
    · rw [hq, Int.neg_one_ediv]; rw [Int.sign_eq_one_of_pos hp]
theorem shift_ok (k a n : Int) (c : Nat) (hc : c = 10 ∨ c = 11) (ha : inW k a = true) (n0 : 0 ≤ n) (n1 : n ≤ 255) : shiftErr k c a 3 n = 0 := by
  have hn : inW 3 n = true := by simp [inW, isW, wrapW]; omega
  have hs : ¬ sval 3 n < 0 := by simp [sval, sgnW, isW]; omega
  have h3 : isW 3 = true := by decide
  unfold shiftErr
  rw [if_pos ⟨hc, (inW_eq ha).1, h3⟩, ha, hn]
  simp [hs]
/-- what a shift leaves -/
def shv (k : Int) (c : Nat) (a n : Int) : Int := wrapW k (shiftRaw k c a n)
theorem shl_val (k a : Int) (n : Nat) : shv k 10 a n = wrapW k (a * 2 ^ n % 18446744073709551616) := by
  unfold shv shiftRaw; rw [if_pos rfl, Int.toNat_natCast, shl_cap]
theorem shr_val (k a : Int) (n : Nat) (a0 : 0 ≤ a) (a1 : a ≤ 18446744073709551615) : shv k 11 a n = wrapW k (sval k a / 2 ^ n % 18446744073709551616) := by
  have h : -18446744073709551616 ≤ sval k a ∧ sval k a < 18446744073709551616 := by unfold sval wrap64; split <;> omega
  unfold shv shiftRaw; rw [if_neg (by decide), Int.toNat_natCast, div_cap _ h.1 h.2]
theorem shv_two (k a : Int) (c i j : Nat) (hc : c = 10 ∨ c = 11) (ha : inW k a = true) (a0 : 0 ≤ a) (a1 : a ≤ 18446744073709551615) :
    (inW k (shv k c a i) = true ∧ 0 ≤ shv k c a i ∧ shv k c a i ≤ 18446744073709551615) ∧ shv k c (shv k c a i) j = shv k c a ((i : Int) + j) := by
  have hk := (inW_eq ha).1
  have eij : ((i : Int) + j) = ((i + j : Nat) : Int) := by omega
  rcases hc with rfl | rfl
  · have b := wrapW_bd k (a * 2 ^ i % 18446744073709551616) (by omega) (by omega)
    have m := wrapW_mod k (a * 2 ^ i % 18446744073709551616)
    refine ⟨⟨by rw [shl_val]; exact inW_wrapW k _ hk (by omega) (by omega), by rw [shl_val]; exact b.1, by rw [shl_val]; exact b.2⟩, ?_⟩
    rw [eij, shl_val, shl_val, shl_val]
    refine wrapW_congr k _ _ (by omega) (by omega) (by omega) (by omega) ?_
    rw [mod_modW, mod_modW, mul_m m, mul_m (mod_modW k _), Int.mul_assoc, ← Int.pow_add]
  · have r := (sval_range k a hk a0 a1).1 ha
    have r1 := half_range k (sval k a) i r.1 r.2
    have e1 : shv k 11 a i = sval k a / 2 ^ i % 18446744073709551616 := by rw [shr_val k a i a0 a1]; exact wrapW_of k _ hk r1.1 r1.2
    have b0 : 0 ≤ shv k 11 a i ∧ shv k 11 a i ≤ 18446744073709551615 := by rw [e1]; omega
    have s1 : sval k (shv k 11 a i) = sval k a / 2 ^ i := by rw [e1]; exact sval_of k _ hk r1.1 r1.2
    refine ⟨⟨(sval_range k _ hk b0.1 b0.2).2 (by rw [s1]; exact r1), b0.1, b0.2⟩, ?_⟩
    rw [eij, shr_val k _ j b0.1 b0.2, s1, shr_val k a _ a0 a1, Int.ediv_ediv_of_nonneg (Int.le_of_lt (Int.pow_pos (by decide))), ← Int.pow_add]
/-! ### bits -/
theorem wu_bv (V : BitVec 64) : IntKind.u64.wrap (V.toNat : Int) = V.toNat := wu_nat _ (by rw [← p64]; exact V.isLt)
theorem bv_of (a : Int) (a0 : 0 ≤ a) (a1 : a ≤ 18446744073709551615) : ((BitVec.ofInt 64 a).toNat : Int) = a := by
  obtain ⟨A, rfl⟩ := Int.eq_ofNat_of_zero_le a0
  rw [BitVec.ofInt_natCast, BitVec.toNat_ofNat, Nat.mod_eq_of_lt (by omega)]
theorem bits_nat (a b : Int) (op : BinOp) (f : BitVec 64 → BitVec 64 → BitVec 64) (h : bits op .u64 a b = IntKind.u64.wrap ((f (BitVec.ofInt 64 a) (BitVec.ofInt 64 b)).toNat : Int)) :
    bits op .u64 a b = ((f (BitVec.ofInt 64 a) (BitVec.ofInt 64 b)).toNat : Int) := by rw [h, wu_bv]
theorem modW_nat {k : Int} (hk : isW k = true) : ∃ n, n ≤ 64 ∧ modW k = ((2 ^ n : Nat) : Int) := by
  rcases isW_cases hk with rfl | rfl | rfl | rfl | rfl | rfl
  · exact ⟨8, by decide, by decide⟩
  · exact ⟨8, by decide, by decide⟩
  · exact ⟨32, by decide, by decide⟩
  · exact ⟨32, by decide, by decide⟩
  · exact ⟨64, by decide, by decide⟩
  · exact ⟨64, by decide, by decide⟩
theorem nat_mod {x y : Nat} {n : Nat} (h : ((x : Int) % ((2 ^ n : Nat) : Int)) = (y : Int) % ((2 ^ n : Nat) : Int)) : x % 2 ^ n = y % 2 ^ n := by exact_mod_cast h
theorem mod_nat {x y : Nat} {n : Nat} (h : x % 2 ^ n = y % 2 ^ n) : ((x : Int) % ((2 ^ n : Nat) : Int)) = (y : Int) % ((2 ^ n : Nat) : Int) := by exact_mod_cast h
/-- the operators on bits, as words of the kind -/
theorem bit_law (k a b : Int) (ha : inW k a = true) (hb : inW k b = true) (a0 : 0 ≤ a) (a1 : a ≤ 18446744073709551615) (b0 : 0 ≤ b) (b1 : b ≤ 18446744073709551615) :
    ∃ an o x n : Int, (0 ≤ an ∧ an ≤ 18446744073709551615) ∧ (0 ≤ x ∧ x ≤ 18446744073709551615) ∧ arithW k 6 a b = an ∧ arithW k 7 a b = o ∧ arithW k 8 a b = x ∧ arithW k 9 a b = n ∧ arithW k 8 a an = n ∧ arithW k 1 an x = o ∧ arithErr k 1 an x = 0 := by
  have hk := (inW_eq ha).1
  obtain ⟨ian, ⟨an0, an1⟩, man⟩ := arith_in (c := 6) (by decide) (by decide) ha hb (by omega) a0 a1 b0 b1
  obtain ⟨io, ⟨o0, o1⟩, mo⟩ := arith_in (c := 7) (by decide) (by decide) ha hb (by omega) a0 a1 b0 b1
  obtain ⟨ix, ⟨x0, x1⟩, mx⟩ := arith_in (c := 8) (by decide) (by decide) ha hb (by omega) a0 a1 b0 b1
  obtain ⟨inn, ⟨n0, n1⟩, mn⟩ := arith_in (c := 9) (by decide) (by decide) ha hb (by omega) a0 a1 b0 b1
  obtain ⟨il, ⟨l0, l1⟩, ml⟩ := arith_in (c := 8) (by decide) (by decide) ha ian (by omega) a0 a1 an0 an1
  obtain ⟨is, s0, s1, ms⟩ := add_in ian ix an0 an1 x0 x1
  refine ⟨_, _, _, _, ⟨an0, an1⟩, ⟨x0, x1⟩, rfl, rfl, rfl, rfl, ?_, ?_, arith_ok (by decide) (by decide) ian ix (by omega)⟩
  · refine inW_ext il inn l0 l1 n0 n1 ?_
    rw [ml, mn]
    obtain ⟨m, _, hm⟩ := modW_nat hk
    generalize hA : BitVec.ofInt 64 a = A
    generalize hB : BitVec.ofInt 64 b = B
    generalize hN : BitVec.ofInt 64 (arithW k 6 a b) = N
    have eN : (N.toNat : Int) = arithW k 6 a b := by rw [← hN]; exact bv_of _ an0 an1
    have e1 : rawW k 8 a (arithW k 6 a b) = ((A ^^^ N).toNat : Int) := by rw [← hA, ← hN]; exact bits_nat _ _ .xor (· ^^^ ·) rfl
    have e2 : rawW k 9 a b = ((A &&& ~~~ B).toNat : Int) := by rw [← hA, ← hB]; exact bits_nat _ _ .andNot (fun x y => x &&& ~~~ y) rfl
    have e3 : rawW k 6 a b = ((A &&& B).toNat : Int) := by rw [← hA, ← hB]; exact bits_nat _ _ .and (· &&& ·) rfl
    rw [e3, ← eN, hm] at man
    have man' := nat_mod man
    have id : A &&& ~~~ B = A ^^^ (A &&& B) := by
      ext i hi; simp; cases A[i] <;> cases B[i] <;> rfl
    rw [e1, e2, hm, id]
    refine mod_nat ?_
    rw [BitVec.toNat_xor, BitVec.toNat_xor, Nat.xor_mod_two_pow, man', ← Nat.xor_mod_two_pow]
  · refine inW_ext is io s0 s1 o0 o1 ?_
    rw [ms, mo, add_m man, add_m' mx]
    generalize hA : BitVec.ofInt 64 a = A
    generalize hB : BitVec.ofInt 64 b = B
    have e1 : rawW k 6 a b = ((A &&& B).toNat : Int) := by rw [← hA, ← hB]; exact bits_nat _ _ .and (· &&& ·) rfl
    have e2 : rawW k 8 a b = ((A ^^^ B).toNat : Int) := by rw [← hA, ← hB]; exact bits_nat _ _ .xor (· ^^^ ·) rfl
    have e3 : rawW k 7 a b = ((A ||| B).toNat : Int) := by rw [← hA, ← hB]; exact bits_nat _ _ .or (· ||| ·) rfl
    have z : (A &&& B) &&& (A ^^^ B) = 0#64 := by ext i hi; simp; cases A[i] <;> cases B[i] <;> simp
    have id : (A &&& B) ||| (A ^^^ B) = A ||| B := by ext i hi; simp; cases A[i] <;> cases B[i] <;> rfl
    have s := BitVec.add_eq_or_of_and_eq_zero _ _ z
    rw [id] at s
    have s' := congrArg BitVec.toNat s
    rw [BitVec.toNat_add, p64] at s'
    rw [e1, e2, e3, ← s']
    rw [← mod_modW]
    congr 1
end Go.Proofs.YtgjfdclmoeellaaDoor
