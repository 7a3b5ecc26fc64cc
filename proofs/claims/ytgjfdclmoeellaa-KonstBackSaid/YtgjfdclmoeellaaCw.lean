/- Contracts of Unary and Compare of the reference of constants, for every input within the range of their types. -/
import Derived.Test.YtgjfdclmoeellaaCv
namespace Go.Proofs.Ytgjfdclmoeellaa
open Go.RowKit
set_option linter.unusedSimpArgs false
set_option linter.unusedVariables false

set_option maxHeartbeats 1000000 in
theorem runary_neg (xn : Bool) (x : Int) (s : ByteArray) (hs : s.toList = [45]) (w : World) (x0 : 0 ≤ x) (x1 : x ≤ 18446744073709551615) :
    Calls Try.prog 41 #[.string s, .agg #[.bool xn, .int .u64 x]] w fun e w' => e = .returned (.tuple #[.agg #[.bool (kUnary (opCode s) xn x).1, .int .u64 (kUnary (opCode s) xn x).2.1], .int .i64 (kUnary (opCode s) xn x).2.2]) ∧ Below w.heap.size w w' := by
  have ho : opCode s = 2 := by simp [opCode, hs]
  cases hx : sound xn x
  · go_enter Try.func41, Try.ntmps41
    go_wp2_with fail
    refine (rconst_any _ _ _).mono ?_
    rintro e w1 ⟨rfl, hw1⟩
    obtain ⟨hc1, hf1⟩ := bcell hw1
    have hz1 : w.heap.size + 1 < w1.heap.size := by have := hw1.size; simp at this; omega
    have hy1 : w.heap.size  < w1.heap.size := by omega
    have hx1 : w.heap.size < w1.heap.size := by omega
    go_wp2
    (try simp only [Exit.inBlock, Exit.then]); refine bodyPost_ret (by (simp [results, Try.results41, go_sem, hc1, hf1, hz1, hx1]; try rfl)) rfl ?_
    refine ⟨ret_num ?_ ?_ (v_int ?_), (by repeat' (first | with_reducible assumption | with_reducible exact Below.refl _ _ | with_reducible refine Below.setCell ?_ ?_ _ | with_reducible refine Below.alloc ?_ ?_ _ | with_reducible refine Below.drew ?_ | with_reducible refine below_dn ?_ _ | refine below_two ?_ (by assumption) | omega | (simp; omega) | (simp; done)))⟩ <;> simp [kUnary, ho, hx]
  · have hk : kMade (!xn) x false = kres (-(kval xn x)) := kMade_eq _ _ _ x0 x1 (by unfold kval; cases xn <;> simp)
    go_enter Try.func41, Try.ntmps41
    go_wp2_with fail
    refine (rconst_any _ _ _).mono ?_
    rintro e w1 ⟨rfl, hw1⟩
    obtain ⟨hc1, hf1⟩ := bcell hw1
    have hz1 : w.heap.size + 1 < w1.heap.size := by have := hw1.size; simp at this; omega
    have hy1 : w.heap.size  < w1.heap.size := by omega
    have hx1 : w.heap.size < w1.heap.size := by omega
    go_wp2_with fail
    refine (told_any _ _ _ _).mono ?_
    rintro e w3 ⟨rfl, hw3⟩
    obtain ⟨hc3, hf3⟩ := bcell hw3
    have hz3 : w.heap.size + 1 < w3.heap.size := by have := hw3.size; simp at this; omega
    have hy3 : w.heap.size  < w3.heap.size := by omega
    have hx3 : w.heap.size < w3.heap.size := by omega
    go_wp2
    (try simp only [Exit.inBlock, Exit.then]); refine bodyPost_ret (by (simp [results, Try.results41, go_sem, hc1, hf1, hz1, hx1, hc3, hf3, hz3, hx3]; try rfl)) rfl ?_
    refine ⟨ret_num ?_ ?_ (v_int ?_), (by repeat' (first | with_reducible assumption | with_reducible exact Below.refl _ _ | with_reducible refine Below.setCell ?_ ?_ _ | with_reducible refine Below.alloc ?_ ?_ _ | with_reducible refine Below.drew ?_ | with_reducible refine below_dn ?_ _ | refine below_two ?_ (by assumption) | omega | (simp; omega) | (simp; done)))⟩ <;> simp [kUnary, ho, hx]
set_option maxHeartbeats 1000000 in
theorem runary_com (xn : Bool) (x : Int) (s : ByteArray) (hs : s.toList = [94]) (w : World) (x0 : 0 ≤ x) (x1 : x ≤ 18446744073709551615) :
    Calls Try.prog 41 #[.string s, .agg #[.bool xn, .int .u64 x]] w fun e w' => e = .returned (.tuple #[.agg #[.bool (kUnary (opCode s) xn x).1, .int .u64 (kUnary (opCode s) xn x).2.1], .int .i64 (kUnary (opCode s) xn x).2.2]) ∧ Below w.heap.size w w' := by
  have ho : opCode s = 8 := by simp [opCode, hs]
  cases hx : sound xn x
  · go_enter Try.func41, Try.ntmps41
    go_wp2_with fail
    refine (rconst_any _ _ _).mono ?_
    rintro e w1 ⟨rfl, hw1⟩
    obtain ⟨hc1, hf1⟩ := bcell hw1
    have hz1 : w.heap.size + 1 < w1.heap.size := by have := hw1.size; simp at this; omega
    have hy1 : w.heap.size  < w1.heap.size := by omega
    have hx1 : w.heap.size < w1.heap.size := by omega
    go_wp2
    (try simp only [Exit.inBlock, Exit.then]); refine bodyPost_ret (by (simp [results, Try.results41, go_sem, hc1, hf1, hz1, hx1]; try rfl)) rfl ?_
    refine ⟨ret_num ?_ ?_ (v_int ?_), (by repeat' (first | with_reducible assumption | with_reducible exact Below.refl _ _ | with_reducible refine Below.setCell ?_ ?_ _ | with_reducible refine Below.alloc ?_ ?_ _ | with_reducible refine Below.drew ?_ | with_reducible refine below_dn ?_ _ | refine below_two ?_ (by assumption) | omega | (simp; omega) | (simp; done)))⟩ <;> simp [kUnary, ho, hx]
  · have hk : kval (!xn) x + kval true 1 = -(kval xn x) - 1 := by unfold kval; cases xn <;> simp <;> omega
    go_enter Try.func41, Try.ntmps41
    go_wp2_with fail
    refine (rconst_any _ _ _).mono ?_
    rintro e w1 ⟨rfl, hw1⟩
    obtain ⟨hc1, hf1⟩ := bcell hw1
    have hz1 : w.heap.size + 1 < w1.heap.size := by have := hw1.size; simp at this; omega
    have hy1 : w.heap.size  < w1.heap.size := by omega
    have hx1 : w.heap.size < w1.heap.size := by omega
    go_wp2_with fail
    refine (rsum_any _ _ _ _ _ x0 x1 (by decide) (by decide)).mono ?_
    rintro e w3 ⟨rfl, hw3⟩
    obtain ⟨hc3, hf3⟩ := bcell hw3
    have hz3 : w.heap.size + 1 < w3.heap.size := by have := hw3.size; simp at this; omega
    have hy3 : w.heap.size  < w3.heap.size := by omega
    have hx3 : w.heap.size < w3.heap.size := by omega
    go_wp2
    (try simp only [Exit.inBlock, Exit.then]); refine bodyPost_ret (by (simp [results, Try.results41, go_sem, hc1, hf1, hz1, hx1, hc3, hf3, hz3, hx3]; try rfl)) rfl ?_
    refine ⟨ret_num ?_ ?_ (v_int ?_), (by repeat' (first | with_reducible assumption | with_reducible exact Below.refl _ _ | with_reducible refine Below.setCell ?_ ?_ _ | with_reducible refine Below.alloc ?_ ?_ _ | with_reducible refine Below.drew ?_ | with_reducible refine below_dn ?_ _ | refine below_two ?_ (by assumption) | omega | (simp; omega) | (simp; done)))⟩ <;> simp [kUnary, ho, hx]
theorem runary_any (xn : Bool) (x : Int) (s : ByteArray) (w : World) (x0 : 0 ≤ x) (x1 : x ≤ 18446744073709551615) :
    Calls Try.prog 41 #[.string s, .agg #[.bool xn, .int .u64 x]] w fun e w' => e = .returned (.tuple #[.agg #[.bool (kUnary (opCode s) xn x).1, .int .u64 (kUnary (opCode s) xn x).2.1], .int .i64 (kUnary (opCode s) xn x).2.2]) ∧ Below w.heap.size w w' := by
  by_cases h1 : s.toList = [45]
  · exact runary_neg xn x s h1 w x0 x1
  by_cases h2 : s.toList = [94]
  · exact runary_com xn x s h2 w x0 x1
  have n1 : (s.toList != [45]) = true := by simp [h1]
  have n2 : (s.toList != [94]) = true := by simp [h2]
  have n3 : (s.toList == [45]) = false := by simp [h1]
  have n4 : (s.toList == [94]) = false := by simp [h2]
  have ho : ¬ (opCode s = 2 ∨ opCode s = 8) := by
    unfold opCode; (repeat' split) <;> simp_all
  have HO := Lib.hid ho
  clear h1 h2 ho
  go_enter Try.func41, Try.ntmps41
  go_wp2_with fail
  go_returns
  refine ⟨ret_num ?_ ?_ (v_int ?_), (by repeat' (first | with_reducible assumption | with_reducible exact Below.refl _ _ | with_reducible refine Below.setCell ?_ ?_ _ | with_reducible refine Below.alloc ?_ ?_ _ | with_reducible refine Below.drew ?_ | with_reducible refine below_dn ?_ _ | refine below_two ?_ (by assumption) | omega | (simp; omega) | (simp; done)))⟩ <;> (unfold kUnary; rw [if_pos HO.out])
theorem rBelow_eq (xn yn : Bool) (x y : Int) (hx : sound xn x = true) (hy : sound yn y = true) (x0 : 0 ≤ x) (y0 : 0 ≤ y) : rBelow xn x yn y = decide (kval xn x < kval yn y) := by
  have h1 := kval_pos hx
  have h2 := kval_pos hy
  unfold kval rBelow
  cases xn <;> cases yn <;> (rw [Bool.eq_iff_iff]; simp at h1 h2 ⊢) <;> omega
set_option maxHeartbeats 1000000 in
theorem rcmp_eq (xn yn : Bool) (x y : Int) (s : ByteArray) (hs : s.toList = [61, 61]) (w : World) (x0 : 0 ≤ x) (x1 : x ≤ 18446744073709551615) (y0 : 0 ≤ y) (y1 : y ≤ 18446744073709551615) :
    Calls Try.prog 42 #[.string s, .agg #[.bool xn, .int .u64 x], .agg #[.bool yn, .int .u64 y]] w fun e w' => e = .returned (.tuple #[.bool (kCmp (cmpCode s) xn x yn y), .int .i64 (kCmpErr (cmpCode s) xn x yn y)]) ∧ Below w.heap.size w w' := by
  have ho : cmpCode s = 1 := by simp [cmpCode, hs]
  cases hx : sound xn x
  · go_enter Try.func42, Try.ntmps42
    go_wp2_with fail
    refine (rconst_any _ _ _).mono ?_
    rintro e w1 ⟨rfl, hw1⟩
    obtain ⟨hc1, hf1⟩ := bcell hw1
    have hz1 : w.heap.size + 1 < w1.heap.size := by have := hw1.size; simp at this; omega
    have hy1 : w.heap.size  < w1.heap.size := by omega
    have hx1 : w.heap.size < w1.heap.size := by omega
    go_wp2
    go_ret2; refine ⟨ret_two (v_bool ?_) (v_int ?_), (by repeat' (first | with_reducible assumption | with_reducible exact Below.refl _ _ | with_reducible refine Below.setCell ?_ ?_ _ | with_reducible refine Below.alloc ?_ ?_ _ | with_reducible refine Below.drew ?_ | with_reducible refine below_dn ?_ _ | refine below_two ?_ (by assumption) | omega | (simp; omega) | (simp; done)))⟩ <;> simp [kCmp, kCmpErr, ho, hx]
  cases hy : sound yn y
  · go_enter Try.func42, Try.ntmps42
    go_wp2_with fail
    refine (rconst_any _ _ _).mono ?_
    rintro e w1 ⟨rfl, hw1⟩
    obtain ⟨hc1, hf1⟩ := bcell hw1
    have hz1 : w.heap.size + 1 < w1.heap.size := by have := hw1.size; simp at this; omega
    have hy1 : w.heap.size  < w1.heap.size := by omega
    have hx1 : w.heap.size < w1.heap.size := by omega
    go_wp2_with fail
    refine (rconst_any _ _ _).mono ?_
    rintro e w2 ⟨rfl, hw2⟩
    obtain ⟨hc2, hf2⟩ := bcell hw2
    have hz2 : w.heap.size + 1 < w2.heap.size := by have := hw2.size; omega
    have hy2 : w.heap.size  < w2.heap.size := by omega
    have hx2 : w.heap.size < w2.heap.size := by omega
    go_wp2
    go_ret2; refine ⟨ret_two (v_bool ?_) (v_int ?_), (by repeat' (first | with_reducible assumption | with_reducible exact Below.refl _ _ | with_reducible refine Below.setCell ?_ ?_ _ | with_reducible refine Below.alloc ?_ ?_ _ | with_reducible refine Below.drew ?_ | with_reducible refine below_dn ?_ _ | refine below_two ?_ (by assumption) | omega | (simp; omega) | (simp; done)))⟩ <;> simp [kCmp, kCmpErr, ho, hx, hy]
  have hk := keq xn yn x y hx hy x0 y0
  by_cases hxy : xn = yn ∧ x = y
  · obtain ⟨rfl, rfl⟩ := hxy
    clear hk
    go_enter Try.func42, Try.ntmps42
    go_wp2_with fail
    refine (rconst_any _ _ _).mono ?_
    rintro e w1 ⟨rfl, hw1⟩
    obtain ⟨hc1, hf1⟩ := bcell hw1
    have hz1 : w.heap.size + 1 < w1.heap.size := by have := hw1.size; simp at this; omega
    have hy1 : w.heap.size  < w1.heap.size := by omega
    have hx1 : w.heap.size < w1.heap.size := by omega
    go_wp2_with fail
    refine (rconst_any _ _ _).mono ?_
    rintro e w2 ⟨rfl, hw2⟩
    obtain ⟨hc2, hf2⟩ := bcell hw2
    have hz2 : w.heap.size + 1 < w2.heap.size := by have := hw2.size; omega
    have hy2 : w.heap.size  < w2.heap.size := by omega
    have hx2 : w.heap.size < w2.heap.size := by omega
    go_wp2
    go_ret2; refine ⟨ret_two (v_bool ?_) (v_int ?_), (by repeat' (first | with_reducible assumption | with_reducible exact Below.refl _ _ | with_reducible refine Below.setCell ?_ ?_ _ | with_reducible refine Below.alloc ?_ ?_ _ | with_reducible refine Below.drew ?_ | with_reducible refine below_dn ?_ _ | refine below_two ?_ (by assumption) | omega | (simp; omega) | (simp; done)))⟩ <;> simp [kCmp, kCmpErr, ho, hx]
  · have hne : ¬ kval xn x = kval yn y := by
      intro h
      rw [decide_eq_true h] at hk
      simp at hk; exact hxy hk
    have HN := Lib.hid hne
    clear hk hne
    go_enter Try.func42, Try.ntmps42
    go_wp2_with fail
    refine (rconst_any _ _ _).mono ?_
    rintro e w1 ⟨rfl, hw1⟩
    obtain ⟨hc1, hf1⟩ := bcell hw1
    have hz1 : w.heap.size + 1 < w1.heap.size := by have := hw1.size; simp at this; omega
    have hy1 : w.heap.size  < w1.heap.size := by omega
    have hx1 : w.heap.size < w1.heap.size := by omega
    go_wp2_with fail
    refine (rconst_any _ _ _).mono ?_
    rintro e w2 ⟨rfl, hw2⟩
    obtain ⟨hc2, hf2⟩ := bcell hw2
    have hz2 : w.heap.size + 1 < w2.heap.size := by have := hw2.size; omega
    have hy2 : w.heap.size  < w2.heap.size := by omega
    have hx2 : w.heap.size < w2.heap.size := by omega
    go_wp2
    all_goals (have hne := HN.out; clear HN; go_ret2; refine ⟨ret_two (v_bool ?_) (v_int ?_), (by repeat' (first | with_reducible assumption | with_reducible exact Below.refl _ _ | with_reducible refine Below.setCell ?_ ?_ _ | with_reducible refine Below.alloc ?_ ?_ _ | with_reducible refine Below.drew ?_ | with_reducible refine below_dn ?_ _ | refine below_two ?_ (by assumption) | omega | (simp; omega) | (simp; done)))⟩ <;> first | (exfalso; exact hxy ⟨by assumption, by assumption⟩) | (exfalso; exact hxy ⟨rfl, rfl⟩) | simp [kCmp, kCmpErr, ho, hx, hy, hne] | simp [kCmp, kCmpErr, ho, hx, hne])
set_option maxHeartbeats 1000000 in
theorem rcmp_ne (xn yn : Bool) (x y : Int) (s : ByteArray) (hs : s.toList = [33, 61]) (w : World) (x0 : 0 ≤ x) (x1 : x ≤ 18446744073709551615) (y0 : 0 ≤ y) (y1 : y ≤ 18446744073709551615) :
    Calls Try.prog 42 #[.string s, .agg #[.bool xn, .int .u64 x], .agg #[.bool yn, .int .u64 y]] w fun e w' => e = .returned (.tuple #[.bool (kCmp (cmpCode s) xn x yn y), .int .i64 (kCmpErr (cmpCode s) xn x yn y)]) ∧ Below w.heap.size w w' := by
  have ho : cmpCode s = 2 := by simp [cmpCode, hs]
  cases hx : sound xn x
  · go_enter Try.func42, Try.ntmps42
    go_wp2_with fail
    refine (rconst_any _ _ _).mono ?_
    rintro e w1 ⟨rfl, hw1⟩
    obtain ⟨hc1, hf1⟩ := bcell hw1
    have hz1 : w.heap.size + 1 < w1.heap.size := by have := hw1.size; simp at this; omega
    have hy1 : w.heap.size  < w1.heap.size := by omega
    have hx1 : w.heap.size < w1.heap.size := by omega
    go_wp2
    go_ret2; refine ⟨ret_two (v_bool ?_) (v_int ?_), (by repeat' (first | with_reducible assumption | with_reducible exact Below.refl _ _ | with_reducible refine Below.setCell ?_ ?_ _ | with_reducible refine Below.alloc ?_ ?_ _ | with_reducible refine Below.drew ?_ | with_reducible refine below_dn ?_ _ | refine below_two ?_ (by assumption) | omega | (simp; omega) | (simp; done)))⟩ <;> simp [kCmp, kCmpErr, ho, hx]
  cases hy : sound yn y
  · go_enter Try.func42, Try.ntmps42
    go_wp2_with fail
    refine (rconst_any _ _ _).mono ?_
    rintro e w1 ⟨rfl, hw1⟩
    obtain ⟨hc1, hf1⟩ := bcell hw1
    have hz1 : w.heap.size + 1 < w1.heap.size := by have := hw1.size; simp at this; omega
    have hy1 : w.heap.size  < w1.heap.size := by omega
    have hx1 : w.heap.size < w1.heap.size := by omega
    go_wp2_with fail
    refine (rconst_any _ _ _).mono ?_
    rintro e w2 ⟨rfl, hw2⟩
    obtain ⟨hc2, hf2⟩ := bcell hw2
    have hz2 : w.heap.size + 1 < w2.heap.size := by have := hw2.size; omega
    have hy2 : w.heap.size  < w2.heap.size := by omega
    have hx2 : w.heap.size < w2.heap.size := by omega
    go_wp2
    go_ret2; refine ⟨ret_two (v_bool ?_) (v_int ?_), (by repeat' (first | with_reducible assumption | with_reducible exact Below.refl _ _ | with_reducible refine Below.setCell ?_ ?_ _ | with_reducible refine Below.alloc ?_ ?_ _ | with_reducible refine Below.drew ?_ | with_reducible refine below_dn ?_ _ | refine below_two ?_ (by assumption) | omega | (simp; omega) | (simp; done)))⟩ <;> simp [kCmp, kCmpErr, ho, hx, hy]
  have hk := keq xn yn x y hx hy x0 y0
  by_cases hxy : xn = yn ∧ x = y
  · obtain ⟨rfl, rfl⟩ := hxy
    clear hk
    go_enter Try.func42, Try.ntmps42
    go_wp2_with fail
    refine (rconst_any _ _ _).mono ?_
    rintro e w1 ⟨rfl, hw1⟩
    obtain ⟨hc1, hf1⟩ := bcell hw1
    have hz1 : w.heap.size + 1 < w1.heap.size := by have := hw1.size; simp at this; omega
    have hy1 : w.heap.size  < w1.heap.size := by omega
    have hx1 : w.heap.size < w1.heap.size := by omega
    go_wp2_with fail
    refine (rconst_any _ _ _).mono ?_
    rintro e w2 ⟨rfl, hw2⟩
    obtain ⟨hc2, hf2⟩ := bcell hw2
    have hz2 : w.heap.size + 1 < w2.heap.size := by have := hw2.size; omega
    have hy2 : w.heap.size  < w2.heap.size := by omega
    have hx2 : w.heap.size < w2.heap.size := by omega
    go_wp2
    go_ret2; refine ⟨ret_two (v_bool ?_) (v_int ?_), (by repeat' (first | with_reducible assumption | with_reducible exact Below.refl _ _ | with_reducible refine Below.setCell ?_ ?_ _ | with_reducible refine Below.alloc ?_ ?_ _ | with_reducible refine Below.drew ?_ | with_reducible refine below_dn ?_ _ | refine below_two ?_ (by assumption) | omega | (simp; omega) | (simp; done)))⟩ <;> simp [kCmp, kCmpErr, ho, hx]
  · have hne : ¬ kval xn x = kval yn y := by
      intro h
      rw [decide_eq_true h] at hk
      simp at hk; exact hxy hk
    have HN := Lib.hid hne
    clear hk hne
    go_enter Try.func42, Try.ntmps42
    go_wp2_with fail
    refine (rconst_any _ _ _).mono ?_
    rintro e w1 ⟨rfl, hw1⟩
    obtain ⟨hc1, hf1⟩ := bcell hw1
    have hz1 : w.heap.size + 1 < w1.heap.size := by have := hw1.size; simp at this; omega
    have hy1 : w.heap.size  < w1.heap.size := by omega
    have hx1 : w.heap.size < w1.heap.size := by omega
    go_wp2_with fail
    refine (rconst_any _ _ _).mono ?_
    rintro e w2 ⟨rfl, hw2⟩
    obtain ⟨hc2, hf2⟩ := bcell hw2
    have hz2 : w.heap.size + 1 < w2.heap.size := by have := hw2.size; omega
    have hy2 : w.heap.size  < w2.heap.size := by omega
    have hx2 : w.heap.size < w2.heap.size := by omega
    go_wp2
    all_goals (have hne := HN.out; clear HN; go_ret2; refine ⟨ret_two (v_bool ?_) (v_int ?_), (by repeat' (first | with_reducible assumption | with_reducible exact Below.refl _ _ | with_reducible refine Below.setCell ?_ ?_ _ | with_reducible refine Below.alloc ?_ ?_ _ | with_reducible refine Below.drew ?_ | with_reducible refine below_dn ?_ _ | refine below_two ?_ (by assumption) | omega | (simp; omega) | (simp; done)))⟩ <;> first | (exfalso; exact hxy ⟨by assumption, by assumption⟩) | (exfalso; exact hxy ⟨rfl, rfl⟩) | simp [kCmp, kCmpErr, ho, hx, hy, hne] | simp [kCmp, kCmpErr, ho, hx, hne])
set_option maxHeartbeats 1000000 in
theorem rcmp_lt (xn yn : Bool) (x y : Int) (s : ByteArray) (hs : s.toList = [60]) (w : World) (x0 : 0 ≤ x) (x1 : x ≤ 18446744073709551615) (y0 : 0 ≤ y) (y1 : y ≤ 18446744073709551615) :
    Calls Try.prog 42 #[.string s, .agg #[.bool xn, .int .u64 x], .agg #[.bool yn, .int .u64 y]] w fun e w' => e = .returned (.tuple #[.bool (kCmp (cmpCode s) xn x yn y), .int .i64 (kCmpErr (cmpCode s) xn x yn y)]) ∧ Below w.heap.size w w' := by
  have ho : cmpCode s = 3 := by simp [cmpCode, hs]
  cases hx : sound xn x
  · go_enter Try.func42, Try.ntmps42
    go_wp2_with fail
    refine (rconst_any _ _ _).mono ?_
    rintro e w1 ⟨rfl, hw1⟩
    obtain ⟨hc1, hf1⟩ := bcell hw1
    have hz1 : w.heap.size + 1 < w1.heap.size := by have := hw1.size; simp at this; omega
    have hy1 : w.heap.size  < w1.heap.size := by omega
    have hx1 : w.heap.size < w1.heap.size := by omega
    go_wp2
    go_ret2; refine ⟨ret_two (v_bool ?_) (v_int ?_), (by repeat' (first | with_reducible assumption | with_reducible exact Below.refl _ _ | with_reducible refine Below.setCell ?_ ?_ _ | with_reducible refine Below.alloc ?_ ?_ _ | with_reducible refine Below.drew ?_ | with_reducible refine below_dn ?_ _ | refine below_two ?_ (by assumption) | omega | (simp; omega) | (simp; done)))⟩ <;> simp [kCmp, kCmpErr, ho, hx]
  cases hy : sound yn y
  · go_enter Try.func42, Try.ntmps42
    go_wp2_with fail
    refine (rconst_any _ _ _).mono ?_
    rintro e w1 ⟨rfl, hw1⟩
    obtain ⟨hc1, hf1⟩ := bcell hw1
    have hz1 : w.heap.size + 1 < w1.heap.size := by have := hw1.size; simp at this; omega
    have hy1 : w.heap.size  < w1.heap.size := by omega
    have hx1 : w.heap.size < w1.heap.size := by omega
    go_wp2_with fail
    refine (rconst_any _ _ _).mono ?_
    rintro e w2 ⟨rfl, hw2⟩
    obtain ⟨hc2, hf2⟩ := bcell hw2
    have hz2 : w.heap.size + 1 < w2.heap.size := by have := hw2.size; omega
    have hy2 : w.heap.size  < w2.heap.size := by omega
    have hx2 : w.heap.size < w2.heap.size := by omega
    go_wp2
    go_ret2; refine ⟨ret_two (v_bool ?_) (v_int ?_), (by repeat' (first | with_reducible assumption | with_reducible exact Below.refl _ _ | with_reducible refine Below.setCell ?_ ?_ _ | with_reducible refine Below.alloc ?_ ?_ _ | with_reducible refine Below.drew ?_ | with_reducible refine below_dn ?_ _ | refine below_two ?_ (by assumption) | omega | (simp; omega) | (simp; done)))⟩ <;> (simp [kCmp, kCmpErr, ho, hx, hy]; try (rw [Bool.eq_iff_iff]; simp))
  have hk := rBelow_eq xn yn x y hx hy x0 y0
  have hk' := rBelow_eq yn xn y x hy hx y0 x0
  go_enter Try.func42, Try.ntmps42
  go_wp2_with fail
  refine (rconst_any _ _ _).mono ?_
  rintro e w1 ⟨rfl, hw1⟩
  obtain ⟨hc1, hf1⟩ := bcell hw1
  have hz1 : w.heap.size + 1 < w1.heap.size := by have := hw1.size; simp at this; omega
  have hy1 : w.heap.size  < w1.heap.size := by omega
  have hx1 : w.heap.size < w1.heap.size := by omega
  go_wp2_with fail
  refine (rconst_any _ _ _).mono ?_
  rintro e w2 ⟨rfl, hw2⟩
  obtain ⟨hc2, hf2⟩ := bcell hw2
  have hz2 : w.heap.size + 1 < w2.heap.size := by have := hw2.size; omega
  have hy2 : w.heap.size  < w2.heap.size := by omega
  have hx2 : w.heap.size < w2.heap.size := by omega
  go_wp2_with fail
  refine (rbelow_any _ _ _ _ _).mono ?_
  rintro e w3 ⟨rfl, hw3⟩
  go_wp2
  go_ret2; refine ⟨ret_two (v_bool ?_) (v_int ?_), (by repeat' (first | with_reducible assumption | with_reducible exact Below.refl _ _ | with_reducible refine Below.setCell ?_ ?_ _ | with_reducible refine Below.alloc ?_ ?_ _ | with_reducible refine Below.drew ?_ | with_reducible refine below_dn ?_ _ | refine below_two ?_ (by assumption) | omega | (simp; omega) | (simp; done)))⟩ <;> (simp [kCmp, kCmpErr, ho, hx, hy]; try (rw [Bool.eq_iff_iff]; simp))
set_option maxHeartbeats 1000000 in
theorem rcmp_le (xn yn : Bool) (x y : Int) (s : ByteArray) (hs : s.toList = [60, 61]) (w : World) (x0 : 0 ≤ x) (x1 : x ≤ 18446744073709551615) (y0 : 0 ≤ y) (y1 : y ≤ 18446744073709551615) :
    Calls Try.prog 42 #[.string s, .agg #[.bool xn, .int .u64 x], .agg #[.bool yn, .int .u64 y]] w fun e w' => e = .returned (.tuple #[.bool (kCmp (cmpCode s) xn x yn y), .int .i64 (kCmpErr (cmpCode s) xn x yn y)]) ∧ Below w.heap.size w w' := by
  have ho : cmpCode s = 4 := by simp [cmpCode, hs]
  cases hx : sound xn x
  · go_enter Try.func42, Try.ntmps42
    go_wp2_with fail
    refine (rconst_any _ _ _).mono ?_
    rintro e w1 ⟨rfl, hw1⟩
    obtain ⟨hc1, hf1⟩ := bcell hw1
    have hz1 : w.heap.size + 1 < w1.heap.size := by have := hw1.size; simp at this; omega
    have hy1 : w.heap.size  < w1.heap.size := by omega
    have hx1 : w.heap.size < w1.heap.size := by omega
    go_wp2
    go_ret2; refine ⟨ret_two (v_bool ?_) (v_int ?_), (by repeat' (first | with_reducible assumption | with_reducible exact Below.refl _ _ | with_reducible refine Below.setCell ?_ ?_ _ | with_reducible refine Below.alloc ?_ ?_ _ | with_reducible refine Below.drew ?_ | with_reducible refine below_dn ?_ _ | refine below_two ?_ (by assumption) | omega | (simp; omega) | (simp; done)))⟩ <;> simp [kCmp, kCmpErr, ho, hx]
  cases hy : sound yn y
  · go_enter Try.func42, Try.ntmps42
    go_wp2_with fail
    refine (rconst_any _ _ _).mono ?_
    rintro e w1 ⟨rfl, hw1⟩
    obtain ⟨hc1, hf1⟩ := bcell hw1
    have hz1 : w.heap.size + 1 < w1.heap.size := by have := hw1.size; simp at this; omega
    have hy1 : w.heap.size  < w1.heap.size := by omega
    have hx1 : w.heap.size < w1.heap.size := by omega
    go_wp2_with fail
    refine (rconst_any _ _ _).mono ?_
    rintro e w2 ⟨rfl, hw2⟩
    obtain ⟨hc2, hf2⟩ := bcell hw2
    have hz2 : w.heap.size + 1 < w2.heap.size := by have := hw2.size; omega
    have hy2 : w.heap.size  < w2.heap.size := by omega
    have hx2 : w.heap.size < w2.heap.size := by omega
    go_wp2
    go_ret2; refine ⟨ret_two (v_bool ?_) (v_int ?_), (by repeat' (first | with_reducible assumption | with_reducible exact Below.refl _ _ | with_reducible refine Below.setCell ?_ ?_ _ | with_reducible refine Below.alloc ?_ ?_ _ | with_reducible refine Below.drew ?_ | with_reducible refine below_dn ?_ _ | refine below_two ?_ (by assumption) | omega | (simp; omega) | (simp; done)))⟩ <;> (simp [kCmp, kCmpErr, ho, hx, hy]; try (rw [Bool.eq_iff_iff]; simp))
  have hk := rBelow_eq xn yn x y hx hy x0 y0
  have hk' := rBelow_eq yn xn y x hy hx y0 x0
  go_enter Try.func42, Try.ntmps42
  go_wp2_with fail
  refine (rconst_any _ _ _).mono ?_
  rintro e w1 ⟨rfl, hw1⟩
  obtain ⟨hc1, hf1⟩ := bcell hw1
  have hz1 : w.heap.size + 1 < w1.heap.size := by have := hw1.size; simp at this; omega
  have hy1 : w.heap.size  < w1.heap.size := by omega
  have hx1 : w.heap.size < w1.heap.size := by omega
  go_wp2_with fail
  refine (rconst_any _ _ _).mono ?_
  rintro e w2 ⟨rfl, hw2⟩
  obtain ⟨hc2, hf2⟩ := bcell hw2
  have hz2 : w.heap.size + 1 < w2.heap.size := by have := hw2.size; omega
  have hy2 : w.heap.size  < w2.heap.size := by omega
  have hx2 : w.heap.size < w2.heap.size := by omega
  go_wp2_with fail
  refine (rbelow_any _ _ _ _ _).mono ?_
  rintro e w3 ⟨rfl, hw3⟩
  go_wp2
  go_ret2; refine ⟨ret_two (v_bool ?_) (v_int ?_), (by repeat' (first | with_reducible assumption | with_reducible exact Below.refl _ _ | with_reducible refine Below.setCell ?_ ?_ _ | with_reducible refine Below.alloc ?_ ?_ _ | with_reducible refine Below.drew ?_ | with_reducible refine below_dn ?_ _ | refine below_two ?_ (by assumption) | omega | (simp; omega) | (simp; done)))⟩ <;> (simp [kCmp, kCmpErr, ho, hx, hy]; try (rw [Bool.eq_iff_iff]; simp))
set_option maxHeartbeats 1000000 in
theorem rcmp_gt (xn yn : Bool) (x y : Int) (s : ByteArray) (hs : s.toList = [62]) (w : World) (x0 : 0 ≤ x) (x1 : x ≤ 18446744073709551615) (y0 : 0 ≤ y) (y1 : y ≤ 18446744073709551615) :
    Calls Try.prog 42 #[.string s, .agg #[.bool xn, .int .u64 x], .agg #[.bool yn, .int .u64 y]] w fun e w' => e = .returned (.tuple #[.bool (kCmp (cmpCode s) xn x yn y), .int .i64 (kCmpErr (cmpCode s) xn x yn y)]) ∧ Below w.heap.size w w' := by
  have ho : cmpCode s = 5 := by simp [cmpCode, hs]
  cases hx : sound xn x
  · go_enter Try.func42, Try.ntmps42
    go_wp2_with fail
    refine (rconst_any _ _ _).mono ?_
    rintro e w1 ⟨rfl, hw1⟩
    obtain ⟨hc1, hf1⟩ := bcell hw1
    have hz1 : w.heap.size + 1 < w1.heap.size := by have := hw1.size; simp at this; omega
    have hy1 : w.heap.size  < w1.heap.size := by omega
    have hx1 : w.heap.size < w1.heap.size := by omega
    go_wp2
    go_ret2; refine ⟨ret_two (v_bool ?_) (v_int ?_), (by repeat' (first | with_reducible assumption | with_reducible exact Below.refl _ _ | with_reducible refine Below.setCell ?_ ?_ _ | with_reducible refine Below.alloc ?_ ?_ _ | with_reducible refine Below.drew ?_ | with_reducible refine below_dn ?_ _ | refine below_two ?_ (by assumption) | omega | (simp; omega) | (simp; done)))⟩ <;> simp [kCmp, kCmpErr, ho, hx]
  cases hy : sound yn y
  · go_enter Try.func42, Try.ntmps42
    go_wp2_with fail
    refine (rconst_any _ _ _).mono ?_
    rintro e w1 ⟨rfl, hw1⟩
    obtain ⟨hc1, hf1⟩ := bcell hw1
    have hz1 : w.heap.size + 1 < w1.heap.size := by have := hw1.size; simp at this; omega
    have hy1 : w.heap.size  < w1.heap.size := by omega
    have hx1 : w.heap.size < w1.heap.size := by omega
    go_wp2_with fail
    refine (rconst_any _ _ _).mono ?_
    rintro e w2 ⟨rfl, hw2⟩
    obtain ⟨hc2, hf2⟩ := bcell hw2
    have hz2 : w.heap.size + 1 < w2.heap.size := by have := hw2.size; omega
    have hy2 : w.heap.size  < w2.heap.size := by omega
    have hx2 : w.heap.size < w2.heap.size := by omega
    go_wp2
    go_ret2; refine ⟨ret_two (v_bool ?_) (v_int ?_), (by repeat' (first | with_reducible assumption | with_reducible exact Below.refl _ _ | with_reducible refine Below.setCell ?_ ?_ _ | with_reducible refine Below.alloc ?_ ?_ _ | with_reducible refine Below.drew ?_ | with_reducible refine below_dn ?_ _ | refine below_two ?_ (by assumption) | omega | (simp; omega) | (simp; done)))⟩ <;> (simp [kCmp, kCmpErr, ho, hx, hy]; try (rw [Bool.eq_iff_iff]; simp))
  have hk := rBelow_eq xn yn x y hx hy x0 y0
  have hk' := rBelow_eq yn xn y x hy hx y0 x0
  go_enter Try.func42, Try.ntmps42
  go_wp2_with fail
  refine (rconst_any _ _ _).mono ?_
  rintro e w1 ⟨rfl, hw1⟩
  obtain ⟨hc1, hf1⟩ := bcell hw1
  have hz1 : w.heap.size + 1 < w1.heap.size := by have := hw1.size; simp at this; omega
  have hy1 : w.heap.size  < w1.heap.size := by omega
  have hx1 : w.heap.size < w1.heap.size := by omega
  go_wp2_with fail
  refine (rconst_any _ _ _).mono ?_
  rintro e w2 ⟨rfl, hw2⟩
  obtain ⟨hc2, hf2⟩ := bcell hw2
  have hz2 : w.heap.size + 1 < w2.heap.size := by have := hw2.size; omega
  have hy2 : w.heap.size  < w2.heap.size := by omega
  have hx2 : w.heap.size < w2.heap.size := by omega
  go_wp2_with fail
  refine (rbelow_any _ _ _ _ _).mono ?_
  rintro e w3 ⟨rfl, hw3⟩
  go_wp2
  go_ret2; refine ⟨ret_two (v_bool ?_) (v_int ?_), (by repeat' (first | with_reducible assumption | with_reducible exact Below.refl _ _ | with_reducible refine Below.setCell ?_ ?_ _ | with_reducible refine Below.alloc ?_ ?_ _ | with_reducible refine Below.drew ?_ | with_reducible refine below_dn ?_ _ | refine below_two ?_ (by assumption) | omega | (simp; omega) | (simp; done)))⟩ <;> (simp [kCmp, kCmpErr, ho, hx, hy]; try (rw [Bool.eq_iff_iff]; simp))
set_option maxHeartbeats 1000000 in
theorem rcmp_ge (xn yn : Bool) (x y : Int) (s : ByteArray) (hs : s.toList = [62, 61]) (w : World) (x0 : 0 ≤ x) (x1 : x ≤ 18446744073709551615) (y0 : 0 ≤ y) (y1 : y ≤ 18446744073709551615) :
    Calls Try.prog 42 #[.string s, .agg #[.bool xn, .int .u64 x], .agg #[.bool yn, .int .u64 y]] w fun e w' => e = .returned (.tuple #[.bool (kCmp (cmpCode s) xn x yn y), .int .i64 (kCmpErr (cmpCode s) xn x yn y)]) ∧ Below w.heap.size w w' := by
  have ho : cmpCode s = 6 := by simp [cmpCode, hs]
  cases hx : sound xn x
  · go_enter Try.func42, Try.ntmps42
    go_wp2_with fail
    refine (rconst_any _ _ _).mono ?_
    rintro e w1 ⟨rfl, hw1⟩
    obtain ⟨hc1, hf1⟩ := bcell hw1
    have hz1 : w.heap.size + 1 < w1.heap.size := by have := hw1.size; simp at this; omega
    have hy1 : w.heap.size  < w1.heap.size := by omega
    have hx1 : w.heap.size < w1.heap.size := by omega
    go_wp2
    go_ret2; refine ⟨ret_two (v_bool ?_) (v_int ?_), (by repeat' (first | with_reducible assumption | with_reducible exact Below.refl _ _ | with_reducible refine Below.setCell ?_ ?_ _ | with_reducible refine Below.alloc ?_ ?_ _ | with_reducible refine Below.drew ?_ | with_reducible refine below_dn ?_ _ | refine below_two ?_ (by assumption) | omega | (simp; omega) | (simp; done)))⟩ <;> simp [kCmp, kCmpErr, ho, hx]
  cases hy : sound yn y
  · go_enter Try.func42, Try.ntmps42
    go_wp2_with fail
    refine (rconst_any _ _ _).mono ?_
    rintro e w1 ⟨rfl, hw1⟩
    obtain ⟨hc1, hf1⟩ := bcell hw1
    have hz1 : w.heap.size + 1 < w1.heap.size := by have := hw1.size; simp at this; omega
    have hy1 : w.heap.size  < w1.heap.size := by omega
    have hx1 : w.heap.size < w1.heap.size := by omega
    go_wp2_with fail
    refine (rconst_any _ _ _).mono ?_
    rintro e w2 ⟨rfl, hw2⟩
    obtain ⟨hc2, hf2⟩ := bcell hw2
    have hz2 : w.heap.size + 1 < w2.heap.size := by have := hw2.size; omega
    have hy2 : w.heap.size  < w2.heap.size := by omega
    have hx2 : w.heap.size < w2.heap.size := by omega
    go_wp2
    go_ret2; refine ⟨ret_two (v_bool ?_) (v_int ?_), (by repeat' (first | with_reducible assumption | with_reducible exact Below.refl _ _ | with_reducible refine Below.setCell ?_ ?_ _ | with_reducible refine Below.alloc ?_ ?_ _ | with_reducible refine Below.drew ?_ | with_reducible refine below_dn ?_ _ | refine below_two ?_ (by assumption) | omega | (simp; omega) | (simp; done)))⟩ <;> (simp [kCmp, kCmpErr, ho, hx, hy]; try (rw [Bool.eq_iff_iff]; simp))
  have hk := rBelow_eq xn yn x y hx hy x0 y0
  have hk' := rBelow_eq yn xn y x hy hx y0 x0
  go_enter Try.func42, Try.ntmps42
  go_wp2_with fail
  refine (rconst_any _ _ _).mono ?_
  rintro e w1 ⟨rfl, hw1⟩
  obtain ⟨hc1, hf1⟩ := bcell hw1
  have hz1 : w.heap.size + 1 < w1.heap.size := by have := hw1.size; simp at this; omega
  have hy1 : w.heap.size  < w1.heap.size := by omega
  have hx1 : w.heap.size < w1.heap.size := by omega
  go_wp2_with fail
  refine (rconst_any _ _ _).mono ?_
  rintro e w2 ⟨rfl, hw2⟩
  obtain ⟨hc2, hf2⟩ := bcell hw2
  have hz2 : w.heap.size + 1 < w2.heap.size := by have := hw2.size; omega
  have hy2 : w.heap.size  < w2.heap.size := by omega
  have hx2 : w.heap.size < w2.heap.size := by omega
  go_wp2_with fail
  refine (rbelow_any _ _ _ _ _).mono ?_
  rintro e w3 ⟨rfl, hw3⟩
  go_wp2
  go_ret2; refine ⟨ret_two (v_bool ?_) (v_int ?_), (by repeat' (first | with_reducible assumption | with_reducible exact Below.refl _ _ | with_reducible refine Below.setCell ?_ ?_ _ | with_reducible refine Below.alloc ?_ ?_ _ | with_reducible refine Below.drew ?_ | with_reducible refine below_dn ?_ _ | refine below_two ?_ (by assumption) | omega | (simp; omega) | (simp; done)))⟩ <;> (simp [kCmp, kCmpErr, ho, hx, hy]; try (rw [Bool.eq_iff_iff]; simp))
theorem rcompare_any (xn yn : Bool) (x y : Int) (s : ByteArray) (w : World) (x0 : 0 ≤ x) (x1 : x ≤ 18446744073709551615) (y0 : 0 ≤ y) (y1 : y ≤ 18446744073709551615) :
    Calls Try.prog 42 #[.string s, .agg #[.bool xn, .int .u64 x], .agg #[.bool yn, .int .u64 y]] w fun e w' => e = .returned (.tuple #[.bool (kCmp (cmpCode s) xn x yn y), .int .i64 (kCmpErr (cmpCode s) xn x yn y)]) ∧ Below w.heap.size w w' := by
  rcases cmpCode_cases s with hs | hs | hs | hs | hs | hs | ⟨hs1, hs2, hs3, hs4, hs5, hs6⟩
  · exact rcmp_eq xn yn x y s hs w x0 x1 y0 y1
  · exact rcmp_ne xn yn x y s hs w x0 x1 y0 y1
  · exact rcmp_lt xn yn x y s hs w x0 x1 y0 y1
  · exact rcmp_le xn yn x y s hs w x0 x1 y0 y1
  · exact rcmp_gt xn yn x y s hs w x0 x1 y0 y1
  · exact rcmp_ge xn yn x y s hs w x0 x1 y0 y1
  · have n1 : (s.toList != [61, 61]) = true := by simpa using hs1
    have n2 : (s.toList != [33, 61]) = true := by simpa using hs2
    have n3 : (s.toList != [60]) = true := by simpa using hs3
    have n4 : (s.toList != [60, 61]) = true := by simpa using hs4
    have n5 : (s.toList != [62]) = true := by simpa using hs5
    have n6 : (s.toList != [62, 61]) = true := by simpa using hs6
    go_enter Try.func42, Try.ntmps42
    go_wp2_with fail
    simp only [beq_eq_false_iff_ne] at hs1 hs2 hs3 hs4 hs5 hs6
    have ho : cmpCode s = 0 := by simp [cmpCode, *]
    go_ret2; refine ⟨ret_two (v_bool ?_) (v_int ?_), (by repeat' (first | with_reducible assumption | with_reducible exact Below.refl _ _ | with_reducible refine Below.setCell ?_ ?_ _ | with_reducible refine Below.alloc ?_ ?_ _ | with_reducible refine Below.drew ?_ | with_reducible refine below_dn ?_ _ | refine below_two ?_ (by assumption) | omega | (simp; omega) | (simp; done)))⟩ <;> simp [kCmp, kCmpErr, ho]
end Go.Proofs.Ytgjfdclmoeellaa
