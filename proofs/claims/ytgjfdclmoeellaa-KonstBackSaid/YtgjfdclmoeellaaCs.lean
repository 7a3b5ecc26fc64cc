/- Contracts of sum and moved of the reference of constants, for every input within the range of their types. -/
import Derived.Test.YtgjfdclmoeellaaPl
import Derived.Test.YtgjfdclmoeellaaCr
namespace Go.Proofs.Ytgjfdclmoeellaa
open Go.RowKit
set_option linter.unusedSimpArgs false
set_option linter.unusedVariables false

theorem rsum_any (xn yn : Bool) (x y : Int) (w : World) (x0 : 0 ≤ x) (x1 : x ≤ 18446744073709551615) (y0 : 0 ≤ y) (y1 : y ≤ 18446744073709551615) :
    Calls Try.prog 59 #[.agg #[.bool xn, .int .u64 x], .agg #[.bool yn, .int .u64 y]] w fun e w' => e = .returned (.tuple #[.agg #[.bool (kres (kval xn x + kval yn y)).1, .int .u64 (kres (kval xn x + kval yn y)).2.1], .int .i64 (kres (kval xn x + kval yn y)).2.2]) ∧ Below w.heap.size w w' := by
  by_cases hs : xn = yn
  · subst hs
    have hk := sum_same xn x y x0 x1 y0 y1
    go_enter Try.func59, Try.ntmps59
    go_wp2_with fail
    refine (told_any _ _ _ _).mono ?_
    rintro e w1 ⟨rfl, hw1⟩
    obtain ⟨hc1, hf1⟩ := bcell hw1
    have hz1 : w.heap.size + 2 < w1.heap.size := by have := hw1.size; simp at this; omega
    go_wp2
    (try simp only [Exit.inBlock, Exit.then]); refine bodyPost_ret (by (simp [results, Try.results59, go_sem, hc1, hf1, hz1]; try rfl)) rfl ?_
    exact ⟨rfl, (by repeat' (first | with_reducible assumption | with_reducible exact Below.refl _ _ | with_reducible refine Below.setCell ?_ ?_ _ | with_reducible refine Below.alloc ?_ ?_ _ | with_reducible refine Below.drew ?_ | with_reducible refine below_dn ?_ _ | refine below_two ?_ (by assumption) | omega | (simp; omega) | (simp; done)))⟩
  · have hs' : (xn == yn) = false := by simpa using hs
    by_cases h : y ≤ x
    · have hk := kMade_eq xn (x - y) (kval xn x + kval yn y) (by omega) (by omega) (by unfold kval; cases xn <;> cases yn <;> simp at hs ⊢ <;> omega)
      clear hs
      go_enter Try.func59, Try.ntmps59
      go_wp2_with fail
      refine (told_any _ _ _ _).mono ?_
      rintro e w1 ⟨rfl, hw1⟩
      obtain ⟨hc1, hf1⟩ := bcell hw1
      have hz1 : w.heap.size + 2 < w1.heap.size := by have := hw1.size; simp at this; omega
      go_wp2
      (try simp only [Exit.inBlock, Exit.then]); refine bodyPost_ret (by (simp [results, Try.results59, go_sem, hc1, hf1, hz1]; try rfl)) rfl ?_
      exact ⟨rfl, (by repeat' (first | with_reducible assumption | with_reducible exact Below.refl _ _ | with_reducible refine Below.setCell ?_ ?_ _ | with_reducible refine Below.alloc ?_ ?_ _ | with_reducible refine Below.drew ?_ | with_reducible refine below_dn ?_ _ | refine below_two ?_ (by assumption) | omega | (simp; omega) | (simp; done)))⟩
    · have hk := kMade_eq yn (y - x) (kval xn x + kval yn y) (by omega) (by omega) (by unfold kval; cases xn <;> cases yn <;> simp at hs ⊢ <;> omega)
      clear hs
      go_enter Try.func59, Try.ntmps59
      go_wp2_with fail
      refine (told_any _ _ _ _).mono ?_
      rintro e w1 ⟨rfl, hw1⟩
      obtain ⟨hc1, hf1⟩ := bcell hw1
      have hz1 : w.heap.size + 2 < w1.heap.size := by have := hw1.size; simp at this; omega
      go_wp2
      (try simp only [Exit.inBlock, Exit.then]); refine bodyPost_ret (by (simp [results, Try.results59, go_sem, hc1, hf1, hz1]; try rfl)) rfl ?_
      exact ⟨rfl, (by repeat' (first | with_reducible assumption | with_reducible exact Below.refl _ _ | with_reducible refine Below.setCell ?_ ?_ _ | with_reducible refine Below.alloc ?_ ?_ _ | with_reducible refine Below.drew ?_ | with_reducible refine below_dn ?_ _ | refine below_two ?_ (by assumption) | omega | (simp; omega) | (simp; done)))⟩
theorem moved_neg (xn : Bool) (x y : Int) (s : ByteArray) (w : World) :
    Calls Try.prog 61 #[.string s, .agg #[.bool xn, .int .u64 x], .agg #[.bool true, .int .u64 y]] w fun e w' => e = .returned (.tuple #[.agg #[.bool false, .int .u64 0], .int .i64 19]) ∧ Below w.heap.size w w' := by
  go_enter Try.func61, Try.ntmps61
  go_wp2
  go_returns
  exact ⟨rfl, (by repeat' (first | with_reducible assumption | with_reducible exact Below.refl _ _ | with_reducible refine Below.setCell ?_ ?_ _ | with_reducible refine Below.alloc ?_ ?_ _ | with_reducible refine Below.drew ?_ | with_reducible refine below_dn ?_ _ | refine below_two ?_ (by assumption) | omega | (simp; omega) | (simp; done)))⟩
set_option maxHeartbeats 1000000 in
theorem moved_shl (xn : Bool) (x y : Int) (s : ByteArray) (hs : s.toList = [60, 60]) (w : World) (x0 : 0 ≤ x) (x1 : x ≤ 18446744073709551615) (y0 : 0 ≤ y) (y1 : y ≤ 18446744073709551615) :
    Calls Try.prog 61 #[.string s, .agg #[.bool xn, .int .u64 x], .agg #[.bool false, .int .u64 y]] w fun e w' => e = .returned (.tuple #[.agg #[.bool (kres (kval xn x * 2 ^ y.toNat)).1, .int .u64 (kres (kval xn x * 2 ^ y.toNat)).2.1], .int .i64 (kres (kval xn x * 2 ^ y.toNat)).2.2]) ∧ Below w.heap.size w w' := by
  go_enter Try.func61, Try.ntmps61
  go_wp2
  go_loopw [8] (fun i wr => ∃ j : Nat, j ≤ 70 ∧ (j : Int) ≤ y ∧ x * 2 ^ j ≤ 18446744073709551615 ∧ i = .int .u64 j ∧ wr = (((w.alloc (.cells #[.bool xn, .int .u64 (x * 2 ^ j)] 32)).alloc (.cells #[.bool false, .int .u64 y] 32)).alloc (.cells #[.bool false, .int .u64 0] 32))) (fun i _ => 70 - (intOf i).toNat)
  case atStart => exact ⟨0, Nat.zero_le _, by omega, by simpa using x1, rfl, by simp⟩
  case round =>
    obtain ⟨j, hj, hjy, hjx, rfl, rfl⟩ := hrel
    have p0 : 0 ≤ x * 2 ^ j := Int.mul_nonneg x0 (Int.le_of_lt (Int.pow_pos (by decide)))
    have hs1 : x * 2 ^ (j + 1) = x * 2 ^ j + x * 2 ^ j := by rw [Int.pow_succ, ← Int.mul_assoc]; omega
    have hov := fun h h' => dbl_over xn x y j x0 h h'
    have hend := fun h => dbl_end xn x y j x0 y0 h hjx
    have HS := Lib.hid hs1
    have HO := Lib.hid hov
    have HE := Lib.hid hend
    clear hs1 hov hend
    generalize x * 2 ^ j = p at *
    by_cases hlt : (j : Int) < y ∧ j < 70
    · obtain ⟨hl1, hl2⟩ := hlt
      by_cases hov : 9223372036854775808 ≤ p
      · have HK := Lib.hid (HO.out hl1 hov)
        have hw : IntKind.u64.wrap (p + p) < p := by rw [IntKind.wrap_u64]; omega
        go_wp2_with fail
        go_returns
        exact ⟨by rw [HK.out], (by repeat' (first | with_reducible assumption | with_reducible exact Below.refl _ _ | with_reducible refine Below.setCell ?_ ?_ _ | with_reducible refine Below.alloc ?_ ?_ _ | with_reducible refine Below.drew ?_ | with_reducible refine below_dn ?_ _ | refine below_two ?_ (by assumption) | omega | (simp; omega) | (simp; done)))⟩
      · go_wp2_with fail
        exact ⟨⟨j + 1, by omega, by omega, by rw [HS.out]; omega, by go_num, by rw [HS.out]⟩, by simp [intOf]; omega⟩
    · have hk := HE.out (by omega)
      by_cases hl1 : (j : Int) < y
      · have hl2 : ¬ j < 70 := by omega
        go_wp2_with fail
        refine (told_any _ _ _ _).mono ?_
        rintro e w1 ⟨rfl, hw1⟩
        obtain ⟨hc1, hf1⟩ := bcell hw1
        have hz1 : w.heap.size + 2 < w1.heap.size := by have := hw1.size; simp at this; omega
        go_wp2
        (try simp only [Exit.inBlock, Exit.then]); refine bodyPost_ret (by (simp [results, Try.results61, go_sem, hc1, hf1, hz1]; try rfl)) rfl ?_
        exact ⟨rfl, (by repeat' (first | with_reducible assumption | with_reducible exact Below.refl _ _ | with_reducible refine Below.setCell ?_ ?_ _ | with_reducible refine Below.alloc ?_ ?_ _ | with_reducible refine Below.drew ?_ | with_reducible refine below_dn ?_ _ | refine below_two ?_ (by assumption) | omega | (simp; omega) | (simp; done)))⟩
      · go_wp2_with fail
        refine (told_any _ _ _ _).mono ?_
        rintro e w1 ⟨rfl, hw1⟩
        obtain ⟨hc1, hf1⟩ := bcell hw1
        have hz1 : w.heap.size + 2 < w1.heap.size := by have := hw1.size; simp at this; omega
        go_wp2
        (try simp only [Exit.inBlock, Exit.then]); refine bodyPost_ret (by (simp [results, Try.results61, go_sem, hc1, hf1, hz1]; try rfl)) rfl ?_
        exact ⟨rfl, (by repeat' (first | with_reducible assumption | with_reducible exact Below.refl _ _ | with_reducible refine Below.setCell ?_ ?_ _ | with_reducible refine Below.alloc ?_ ?_ _ | with_reducible refine Below.drew ?_ | with_reducible refine below_dn ?_ _ | refine below_two ?_ (by assumption) | omega | (simp; omega) | (simp; done)))⟩
set_option maxHeartbeats 1000000 in
theorem moved_shr (xn : Bool) (x y : Int) (s : ByteArray) (hs : s.toList = [62, 62]) (w : World) (x0 : 0 ≤ x) (x1 : x ≤ 18446744073709551615) (y0 : 0 ≤ y) (y1 : y ≤ 18446744073709551615) :
    Calls Try.prog 61 #[.string s, .agg #[.bool xn, .int .u64 x], .agg #[.bool false, .int .u64 y]] w fun e w' => e = .returned (.tuple #[.agg #[.bool (kres (kval xn x / 2 ^ y.toNat)).1, .int .u64 (kres (kval xn x / 2 ^ y.toNat)).2.1], .int .i64 (kres (kval xn x / 2 ^ y.toNat)).2.2]) ∧ Below w.heap.size w w' := by
  go_enter Try.func61, Try.ntmps61
  go_wp2
  go_loopw [8] (fun i wr => ∃ j : Nat, j ≤ 70 ∧ (j : Int) ≤ y ∧ i = .int .u64 j ∧ wr = (((w.alloc (.cells #[.bool xn, .int .u64 (halves xn x j)] 32)).alloc (.cells #[.bool false, .int .u64 y] 32)).alloc (.cells #[.bool false, .int .u64 0] 32))) (fun i _ => 70 - (intOf i).toNat)
  case atStart => exact ⟨0, Nat.zero_le _, by omega, rfl, rfl⟩
  case round =>
    obtain ⟨j, hj, hjy, rfl, rfl⟩ := hrel
    obtain ⟨p0, p1⟩ := halves_bd xn x x0 x1 j
    have hs1 : halves xn x (j + 1) = halfd xn (halves xn x j) := rfl
    have hend := fun h => halves_end xn x y j x0 x1 y0 h
    have HS := Lib.hid hs1
    have HE := Lib.hid hend
    clear hs1 hend
    generalize halves xn x j = p at *
    by_cases hlt : (j : Int) < y ∧ j < 70
    · obtain ⟨hl1, hl2⟩ := hlt
      cases xn
      · go_wp2_with fail
        exact ⟨⟨j + 1, by omega, by omega, by go_num, by rw [HS.out]; simp [halfd]⟩, by simp [intOf]; omega⟩
      · go_wp2_with fail
        exact ⟨⟨j + 1, by omega, by omega, by go_num, by rw [HS.out]; simp [halfd]⟩, by simp [intOf]; omega⟩
    · have hk := HE.out (by omega)
      by_cases hl1 : (j : Int) < y
      · have hl2 : ¬ j < 70 := by omega
        go_wp2_with fail
        refine (told_any _ _ _ _).mono ?_
        rintro e w1 ⟨rfl, hw1⟩
        obtain ⟨hc1, hf1⟩ := bcell hw1
        have hz1 : w.heap.size + 2 < w1.heap.size := by have := hw1.size; simp at this; omega
        go_wp2
        (try simp only [Exit.inBlock, Exit.then]); refine bodyPost_ret (by (simp [results, Try.results61, go_sem, hc1, hf1, hz1]; try rfl)) rfl ?_
        exact ⟨rfl, (by repeat' (first | with_reducible assumption | with_reducible exact Below.refl _ _ | with_reducible refine Below.setCell ?_ ?_ _ | with_reducible refine Below.alloc ?_ ?_ _ | with_reducible refine Below.drew ?_ | with_reducible refine below_dn ?_ _ | refine below_two ?_ (by assumption) | omega | (simp; omega) | (simp; done)))⟩
      · go_wp2_with fail
        refine (told_any _ _ _ _).mono ?_
        rintro e w1 ⟨rfl, hw1⟩
        obtain ⟨hc1, hf1⟩ := bcell hw1
        have hz1 : w.heap.size + 2 < w1.heap.size := by have := hw1.size; simp at this; omega
        go_wp2
        (try simp only [Exit.inBlock, Exit.then]); refine bodyPost_ret (by (simp [results, Try.results61, go_sem, hc1, hf1, hz1]; try rfl)) rfl ?_
        exact ⟨rfl, (by repeat' (first | with_reducible assumption | with_reducible exact Below.refl _ _ | with_reducible refine Below.setCell ?_ ?_ _ | with_reducible refine Below.alloc ?_ ?_ _ | with_reducible refine Below.drew ?_ | with_reducible refine below_dn ?_ _ | refine below_two ?_ (by assumption) | omega | (simp; omega) | (simp; done)))⟩
end Go.Proofs.Ytgjfdclmoeellaa
