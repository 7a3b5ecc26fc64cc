/- Plain lemmas for constants and words: which kinds have a constant. No program in sight. -/
import Derived.Test.YtgjfdclmoeellaaDoorPm
namespace Go.Proofs.YtgjfdclmoeellaaDoor
open Go.RowKit
set_option linter.unusedSimpArgs false
set_option linter.unusedVariables false

def wordOf (neg : Bool) (n : Int) : Int := if neg then IntKind.u64.wrap (-n) else n
theorem wordOf_mod (neg : Bool) (n : Int) (n0 : 0 ≤ n) (n1 : n ≤ 18446744073709551615) : wordOf neg n = kval neg n % 18446744073709551616 := by
  unfold wordOf kval; cases neg
  · simp; omega
  · simp [IntKind.wrap_u64]
theorem wordOf_bd (neg : Bool) (n : Int) (n0 : 0 ≤ n) (n1 : n ≤ 18446744073709551615) : 0 ≤ wordOf neg n ∧ wordOf neg n ≤ 18446744073709551615 := by
  rw [wordOf_mod neg n n0 n1]; omega
/-- has a kind this constant? -/
def fitsK (k : Int) (neg : Bool) (n : Int) : Bool := decide (loW k ≤ kval neg n) && decide (kval neg n ≤ hiW k)
theorem fits_iff (k : Int) (neg : Bool) (n : Int) (hk : isW k = true) (hs : sound neg n = true) (n0 : 0 ≤ n) (n1 : n ≤ 18446744073709551615) :
    fitsK k neg n = (inW k (wordOf neg n) && !(neg && !sgnW k) && !(sgnW k && !neg && decide (9223372036854775808 ≤ n))) := by
  have hp := kval_pos hs
  rcases isW_cases hk with rfl | rfl | rfl | rfl | rfl | rfl <;> cases neg <;> simp [fitsK, kval, loW, hiW, modW, sgnW, isW, inW, wordOf, wrapW, IntKind.wrap_u64] at hp ⊢ <;> (try rw [Bool.eq_iff_iff]) <;> (try simp) <;> omega
def kFitErr (k : Int) (neg : Bool) (n : Int) : Int := if isW k then (if sound neg n then (if fitsK k neg n then 0 else 10) else 1) else 2
/-! ### KonstBack -/
theorem of_val (k n : Int) (n0 : 0 ≤ n) (n1 : n ≤ 18446744073709551615) : kval (ofNeg k n) (ofN k n) = sval k n := by
  rw [sval_eq k n n0 n1]; rfl
theorem of_sound (k n : Int) (n0 : 0 ≤ n) (n1 : n ≤ 18446744073709551615) : sound (ofNeg k n) (ofN k n) = true := by
  unfold sound ofN ofNeg
  rw [IntKind.wrap_u64]
  cases sgnW k
  · simp
  · by_cases h : 9223372036854775808 ≤ n <;> simp [h]; omega
theorem ofN_bd (k n : Int) (n0 : 0 ≤ n) (n1 : n ≤ 18446744073709551615) : 0 ≤ ofN k n ∧ ofN k n ≤ 18446744073709551615 := by
  unfold ofN; split
  · rw [IntKind.wrap_u64]; omega
  · exact ⟨n0, n1⟩
theorem kback (k o n : Int) (hi : inW k n = true) (n0 : 0 ≤ n) (n1 : n ≤ 18446744073709551615) :
    kFitErr k (ofNeg k n) (ofN k n) = 0 ∧ wordOf (ofNeg k n) (ofN k n) = n ∧
      (kFitErr o (ofNeg k n) (ofN k n) = 0 → checkW o [n] = 0 ∧ ofNeg o n = ofNeg k n ∧ ofN o n = ofN k n) := by
  have hk := (inW_eq hi).1
  have hs := of_sound k n n0 n1
  have hv := of_val k n n0 n1
  have hb := ofN_bd k n n0 n1
  have hr := (sval_range k n hk n0 n1).1 hi
  have hw : wordOf (ofNeg k n) (ofN k n) = n := by rw [wordOf_mod _ _ hb.1 hb.2, hv, sval_mod k n n0 n1]
  refine ⟨?_, hw, ?_⟩
  · unfold kFitErr fitsK; rw [hv, hk, hs]; simp [hr]
  · intro h
    unfold kFitErr at h
    cases ho : isW o
    · simp [ho] at h
    · have hf : fitsK o (ofNeg k n) (ofN k n) = true := by
        cases hf : fitsK o (ofNeg k n) (ofN k n)
        · simp [ho, hs, hf] at h
        · rfl
      unfold fitsK at hf; rw [hv] at hf
      simp only [Bool.and_eq_true, decide_eq_true_eq] at hf
      have e := sval_mod k n n0 n1
      have e2 := sval_of o (sval k n) ho hf.1 hf.2
      rw [e] at e2
      have hio : inW o n = true := (sval_range o n ho n0 n1).2 (by rw [e2]; exact hf)
      refine ⟨checkW1.2 hio, ?_, ?_⟩
      · rw [sval_neg o n n0 n1, sval_neg k n n0 n1, e2]
      · rw [ofN_abs o n n0 n1, ofN_abs k n n0 n1, e2]
end Go.Proofs.YtgjfdclmoeellaaDoor
