/- Plain lemma for the law WordDivides: quotient, rest and what they make together. No program in sight. -/
import Derived.Test.YtgjfdclmoeellaaPd
namespace Go.Proofs.Ytgjfdclmoeellaa
open Go.RowKit
set_option linter.unusedSimpArgs false
set_option linter.unusedVariables false

theorem tmod_facts (a b : Int) (hb : b ≠ 0) : (a.tmod b).natAbs < b.natAbs ∧ (a.tmod b).natAbs ≤ a.natAbs ∧ (0 ≤ a → 0 ≤ a.tmod b) ∧ (a ≤ 0 → a.tmod b ≤ 0) := by
  have h := Int.natAbs_tmod a b
  have hp : 0 < b.natAbs := by omega
  refine ⟨by rw [h]; exact Nat.mod_lt _ hp, by rw [h]; exact Nat.mod_le _ _, fun h0 => Int.tmod_nonneg b h0, fun h0 => ?_⟩
  have h1 := Int.tmod_nonneg b (show 0 ≤ -a by omega)
  rw [Int.neg_tmod] at h1; omega
theorem sval_m (k n : Int) (h0 : 0 ≤ n) (h1 : n ≤ 18446744073709551615) : sval k n % modW k = n % modW k := by
  rw [← mod_modW, sval_mod k n h0 h1]
theorem div_law (k a b : Int) (ha : inW k a = true) (hb : inW k b = true) (a0 : 0 ≤ a) (a1 : a ≤ 18446744073709551615) (b0 : 0 ≤ b) (b1 : b ≤ 18446744073709551615) (hz : b ≠ 0) :
    ∃ q r p : Int, (0 ≤ q ∧ q ≤ 18446744073709551615) ∧ (0 ≤ r ∧ r ≤ 18446744073709551615) ∧ (0 ≤ p ∧ p ≤ 18446744073709551615) ∧ arithW k 4 a b = q ∧ arithErr k 4 a b = 0 ∧ arithW k 5 a b = r ∧ arithErr k 5 a b = 0 ∧
      arithW k 3 q b = p ∧ arithW k 1 p r = a ∧ arithErr k 1 p r = 0 ∧ ofN k r < ofN k b ∧ (ofN k r = 0 ∨ ofNeg k r = ofNeg k a) := by
  have hk := (inW_eq ha).1
  obtain ⟨iq, ⟨q0, q1⟩, mq⟩ := arith_in (c := 4) (by decide) (by decide) ha hb (fun _ => hz) a0 a1 b0 b1
  obtain ⟨ir, ⟨r0, r1⟩, mr⟩ := arith_in (c := 5) (by decide) (by decide) ha hb (fun _ => hz) a0 a1 b0 b1
  obtain ⟨ip, p0, p1, mp⟩ := mul_in iq hb q0 q1 b0 b1
  obtain ⟨is, s0, s1, ms⟩ := add_in ip ir p0 p1 r0 r1
  have hsb : sval k b ≠ 0 := by
    intro h; have := sval_mod k b b0 b1; rw [h] at this; simp at this; omega
  have hf := tmod_facts (sval k a) (sval k b) hsb
  have hrng := (sval_range k a hk a0 a1).1 ha
  have hl := lo_nonpos k
  have hh := hi_nonneg k
  have hr0 : loW k ≤ (sval k a).tmod (sval k b) ∧ (sval k a).tmod (sval k b) ≤ hiW k := by
    obtain ⟨f1, f2, f3, f4⟩ := hf
    by_cases h : 0 ≤ sval k a
    · have := f3 h; omega
    · have := f4 (by omega); omega
  have hrv : arithW k 5 a b = (sval k a).tmod (sval k b) % 18446744073709551616 := by
    rw [arith_val (c := 5) (by decide) (by decide) ha hb (fun _ => hz)]
    exact wrapW_of k _ hk hr0.1 hr0.2
  have hsr : sval k (arithW k 5 a b) = (sval k a).tmod (sval k b) := by rw [hrv]; exact sval_of k _ hk hr0.1 hr0.2
  refine ⟨_, _, _, ⟨q0, q1⟩, ⟨r0, r1⟩, ⟨p0, p1⟩, rfl, arith_ok (by decide) (by decide) ha hb (fun _ => hz), rfl, arith_ok (by decide) (by decide) ha hb (fun _ => hz), rfl, ?_, arith_ok (by decide) (by decide) ip ir (by omega), ?_, ?_⟩
  · refine inW_ext is ha s0 s1 a0 a1 ?_
    have e1 : arithW k 4 a b % modW k = (sval k a).tdiv (sval k b) % modW k := by rw [mq]; exact mod_modW k _
    have e2 : arithW k 5 a b % modW k = (sval k a).tmod (sval k b) % modW k := by rw [mr]; exact mod_modW k _
    rw [ms, add_m mp, add_m (mul_m e1), add_m' e2, add_m (mul_m' (sval_m k b b0 b1).symm), ← sval_m k a a0 a1]
    congr 1
    have := Int.mul_tdiv_add_tmod (sval k a) (sval k b)
    rw [Int.mul_comm] at this; exact this
  · rw [ofN_abs k _ r0 r1, ofN_abs k b b0 b1, hsr]
    obtain ⟨f1, f2, f3, f4⟩ := hf
    split <;> split <;> omega
  · rw [ofN_abs k _ r0 r1, sval_neg k _ r0 r1, sval_neg k a a0 a1, hsr]
    obtain ⟨f1, f2, f3, f4⟩ := hf
    by_cases h : (sval k a).tmod (sval k b) = 0
    · left; rw [h]; simp
    · right
      by_cases h2 : 0 ≤ sval k a
      · have := f3 h2; rw [decide_eq_decide]; omega
      · have := f4 (by omega); rw [decide_eq_decide]; omega
end Go.Proofs.Ytgjfdclmoeellaa
