/- The contract of Fold of the reference of constants, for every input within the range of its types. -/
import Derived.Test.YtgjfdclmoeellaaCs
import Derived.Test.YtgjfdclmoeellaaH
namespace Go.Proofs.Ytgjfdclmoeellaa
open Go.RowKit
set_option linter.unusedSimpArgs false
set_option linter.unusedVariables false

set_option maxHeartbeats 2000000 in
set_option maxRecDepth 100000 in
theorem rfold_add (xn yn : Bool) (x y : Int) (s : ByteArray) (hs : s.toList = [43]) (w : World) (x0 : 0 ≤ x) (x1 : x ≤ 18446744073709551615) (y0 : 0 ≤ y) (y1 : y ≤ 18446744073709551615) :
    Calls Try.prog 35 #[.string s, .agg #[.bool xn, .int .u64 x], .agg #[.bool yn, .int .u64 y]] w fun e w' => e = .returned (.tuple #[.agg #[.bool (kFold (opCode s) xn x yn y).1, .int .u64 (kFold (opCode s) xn x yn y).2.1], .int .i64 (kFold (opCode s) xn x yn y).2.2]) ∧ Below w.heap.size w w' := by
  have ho : opCode s = 1 := by simp [opCode, hs]
  cases hx : sound xn x
  · go_enter Try.func35, Try.ntmps35
    go_wp2_with (first | (go_at_call 50; refine (rsign_any _ _).mono ?_; rintro e w' ⟨rfl, rfl⟩))
    refine (rconst_any _ _ _).mono ?_
    rintro e w1 ⟨rfl, hw1⟩
    obtain ⟨hc1, hf1⟩ := bcell hw1
    have hz1 : w.heap.size + 2 < w1.heap.size := by have := hw1.size; simp at this; omega
    have hy1 : w.heap.size + 1 < w1.heap.size := by omega
    have hx1 : w.heap.size < w1.heap.size := by omega
    go_wp2
    (try simp only [Exit.inBlock, Exit.then]); refine bodyPost_ret (by (simp [results, Try.results35, go_sem, hc1, hf1, hz1]; try rfl)) rfl ?_
    refine ⟨ret_num ?_ ?_ (v_int ?_), (by repeat' (first | with_reducible assumption | with_reducible exact Below.refl _ _ | with_reducible refine Below.setCell ?_ ?_ _ | with_reducible refine Below.alloc ?_ ?_ _ | with_reducible refine Below.drew ?_ | with_reducible refine below_dn ?_ _ | refine below_two ?_ (by assumption) | omega | (simp; omega) | (simp; done)))⟩ <;> simp [kFold, ho, hx]
  cases hy : sound yn y
  · go_enter Try.func35, Try.ntmps35
    go_wp2_with (first | (go_at_call 50; refine (rsign_any _ _).mono ?_; rintro e w' ⟨rfl, rfl⟩))
    refine (rconst_any _ _ _).mono ?_
    rintro e w1 ⟨rfl, hw1⟩
    obtain ⟨hc1, hf1⟩ := bcell hw1
    have hz1 : w.heap.size + 2 < w1.heap.size := by have := hw1.size; simp at this; omega
    have hy1 : w.heap.size + 1 < w1.heap.size := by omega
    have hx1 : w.heap.size < w1.heap.size := by omega
    go_wp2_with fail
    refine (rconst_any _ _ _).mono ?_
    rintro e w2 ⟨rfl, hw2⟩
    obtain ⟨hc2, hf2⟩ := bcell hw2
    have hz2 : w.heap.size + 2 < w2.heap.size := by have := hw2.size; omega
    have hy2 : w.heap.size + 1 < w2.heap.size := by omega
    have hx2 : w.heap.size < w2.heap.size := by omega
    go_wp2
    (try simp only [Exit.inBlock, Exit.then]); refine bodyPost_ret (by (simp [results, Try.results35, go_sem, hc1, hf1, hz1, hc2, hf2, hz2]; try rfl)) rfl ?_
    refine ⟨ret_num ?_ ?_ (v_int ?_), (by repeat' (first | with_reducible assumption | with_reducible exact Below.refl _ _ | with_reducible refine Below.setCell ?_ ?_ _ | with_reducible refine Below.alloc ?_ ?_ _ | with_reducible refine Below.drew ?_ | with_reducible refine below_dn ?_ _ | refine below_two ?_ (by assumption) | omega | (simp; omega) | (simp; done)))⟩ <;> simp [kFold, ho, hx, hy]
  go_enter Try.func35, Try.ntmps35
  go_wp2_with (first | (go_at_call 50; refine (rsign_any _ _).mono ?_; rintro e w' ⟨rfl, rfl⟩))
  refine (rconst_any _ _ _).mono ?_
  rintro e w1 ⟨rfl, hw1⟩
  obtain ⟨hc1, hf1⟩ := bcell hw1
  have hz1 : w.heap.size + 2 < w1.heap.size := by have := hw1.size; simp at this; omega
  have hy1 : w.heap.size + 1 < w1.heap.size := by omega
  have hx1 : w.heap.size < w1.heap.size := by omega
  go_wp2_with fail
  refine (rconst_any _ _ _).mono ?_
  rintro e w2 ⟨rfl, hw2⟩
  obtain ⟨hc2, hf2⟩ := bcell hw2
  have hz2 : w.heap.size + 2 < w2.heap.size := by have := hw2.size; omega
  have hy2 : w.heap.size + 1 < w2.heap.size := by omega
  have hx2 : w.heap.size < w2.heap.size := by omega
  go_wp2_with fail
  refine (rsum_any _ _ _ _ _ (by omega) (by omega) (by omega) (by omega)).mono ?_
  rintro e w3 ⟨rfl, hw3⟩
  obtain ⟨hc3, hf3⟩ := bcell hw3
  have hz3 : w.heap.size + 2 < w3.heap.size := by have := hw3.size; omega
  go_wp2
  (try simp only [Exit.inBlock, Exit.then]); refine bodyPost_ret (by (simp [results, Try.results35, go_sem, hc1, hf1, hz1, hc2, hf2, hz2, hc3, hf3, hz3]; try rfl)) rfl ?_
  refine ⟨ret_num ?_ ?_ (v_int ?_), (by repeat' (first | with_reducible assumption | with_reducible exact Below.refl _ _ | with_reducible refine Below.setCell ?_ ?_ _ | with_reducible refine Below.alloc ?_ ?_ _ | with_reducible refine Below.drew ?_ | with_reducible refine below_dn ?_ _ | refine below_two ?_ (by assumption) | omega | (simp; omega) | (simp; done)))⟩ <;> simp [kFold, ho, hx, hy]
set_option maxHeartbeats 2000000 in
set_option maxRecDepth 100000 in
theorem rfold_sub (xn yn : Bool) (x y : Int) (s : ByteArray) (hs : s.toList = [45]) (w : World) (x0 : 0 ≤ x) (x1 : x ≤ 18446744073709551615) (y0 : 0 ≤ y) (y1 : y ≤ 18446744073709551615) :
    Calls Try.prog 35 #[.string s, .agg #[.bool xn, .int .u64 x], .agg #[.bool yn, .int .u64 y]] w fun e w' => e = .returned (.tuple #[.agg #[.bool (kFold (opCode s) xn x yn y).1, .int .u64 (kFold (opCode s) xn x yn y).2.1], .int .i64 (kFold (opCode s) xn x yn y).2.2]) ∧ Below w.heap.size w w' := by
  have ho : opCode s = 2 := by simp [opCode, hs]
  cases hx : sound xn x
  · go_enter Try.func35, Try.ntmps35
    go_wp2_with (first | (go_at_call 50; refine (rsign_any _ _).mono ?_; rintro e w' ⟨rfl, rfl⟩))
    refine (rconst_any _ _ _).mono ?_
    rintro e w1 ⟨rfl, hw1⟩
    obtain ⟨hc1, hf1⟩ := bcell hw1
    have hz1 : w.heap.size + 2 < w1.heap.size := by have := hw1.size; simp at this; omega
    have hy1 : w.heap.size + 1 < w1.heap.size := by omega
    have hx1 : w.heap.size < w1.heap.size := by omega
    go_wp2
    (try simp only [Exit.inBlock, Exit.then]); refine bodyPost_ret (by (simp [results, Try.results35, go_sem, hc1, hf1, hz1]; try rfl)) rfl ?_
    refine ⟨ret_num ?_ ?_ (v_int ?_), (by repeat' (first | with_reducible assumption | with_reducible exact Below.refl _ _ | with_reducible refine Below.setCell ?_ ?_ _ | with_reducible refine Below.alloc ?_ ?_ _ | with_reducible refine Below.drew ?_ | with_reducible refine below_dn ?_ _ | refine below_two ?_ (by assumption) | omega | (simp; omega) | (simp; done)))⟩ <;> simp [kFold, ho, hx]
  cases hy : sound yn y
  · go_enter Try.func35, Try.ntmps35
    go_wp2_with (first | (go_at_call 50; refine (rsign_any _ _).mono ?_; rintro e w' ⟨rfl, rfl⟩))
    refine (rconst_any _ _ _).mono ?_
    rintro e w1 ⟨rfl, hw1⟩
    obtain ⟨hc1, hf1⟩ := bcell hw1
    have hz1 : w.heap.size + 2 < w1.heap.size := by have := hw1.size; simp at this; omega
    have hy1 : w.heap.size + 1 < w1.heap.size := by omega
    have hx1 : w.heap.size < w1.heap.size := by omega
    go_wp2_with fail
    refine (rconst_any _ _ _).mono ?_
    rintro e w2 ⟨rfl, hw2⟩
    obtain ⟨hc2, hf2⟩ := bcell hw2
    have hz2 : w.heap.size + 2 < w2.heap.size := by have := hw2.size; omega
    have hy2 : w.heap.size + 1 < w2.heap.size := by omega
    have hx2 : w.heap.size < w2.heap.size := by omega
    go_wp2
    (try simp only [Exit.inBlock, Exit.then]); refine bodyPost_ret (by (simp [results, Try.results35, go_sem, hc1, hf1, hz1, hc2, hf2, hz2]; try rfl)) rfl ?_
    refine ⟨ret_num ?_ ?_ (v_int ?_), (by repeat' (first | with_reducible assumption | with_reducible exact Below.refl _ _ | with_reducible refine Below.setCell ?_ ?_ _ | with_reducible refine Below.alloc ?_ ?_ _ | with_reducible refine Below.drew ?_ | with_reducible refine below_dn ?_ _ | refine below_two ?_ (by assumption) | omega | (simp; omega) | (simp; done)))⟩ <;> simp [kFold, ho, hx, hy]
  have hk : kval xn x + kval (!yn) y = kval xn x - kval yn y := by unfold kval; cases yn <;> simp <;> omega
  go_enter Try.func35, Try.ntmps35
  go_wp2_with (first | (go_at_call 50; refine (rsign_any _ _).mono ?_; rintro e w' ⟨rfl, rfl⟩))
  refine (rconst_any _ _ _).mono ?_
  rintro e w1 ⟨rfl, hw1⟩
  obtain ⟨hc1, hf1⟩ := bcell hw1
  have hz1 : w.heap.size + 2 < w1.heap.size := by have := hw1.size; simp at this; omega
  have hy1 : w.heap.size + 1 < w1.heap.size := by omega
  have hx1 : w.heap.size < w1.heap.size := by omega
  go_wp2_with fail
  refine (rconst_any _ _ _).mono ?_
  rintro e w2 ⟨rfl, hw2⟩
  obtain ⟨hc2, hf2⟩ := bcell hw2
  have hz2 : w.heap.size + 2 < w2.heap.size := by have := hw2.size; omega
  have hy2 : w.heap.size + 1 < w2.heap.size := by omega
  have hx2 : w.heap.size < w2.heap.size := by omega
  go_wp2_with fail
  refine (rsum_any _ _ _ _ _ (by omega) (by omega) (by omega) (by omega)).mono ?_
  rintro e w3 ⟨rfl, hw3⟩
  obtain ⟨hc3, hf3⟩ := bcell hw3
  have hz3 : w.heap.size + 2 < w3.heap.size := by have := hw3.size; omega
  go_wp2
  (try simp only [Exit.inBlock, Exit.then]); refine bodyPost_ret (by (simp [results, Try.results35, go_sem, hc1, hf1, hz1, hc2, hf2, hz2, hc3, hf3, hz3]; try rfl)) rfl ?_
  refine ⟨ret_num ?_ ?_ (v_int ?_), (by repeat' (first | with_reducible assumption | with_reducible exact Below.refl _ _ | with_reducible refine Below.setCell ?_ ?_ _ | with_reducible refine Below.alloc ?_ ?_ _ | with_reducible refine Below.drew ?_ | with_reducible refine below_dn ?_ _ | refine below_two ?_ (by assumption) | omega | (simp; omega) | (simp; done)))⟩ <;> simp [kFold, ho, hx, hy]
set_option maxHeartbeats 2000000 in
set_option maxRecDepth 100000 in
theorem rfold_mul (xn yn : Bool) (x y : Int) (s : ByteArray) (hs : s.toList = [42]) (w : World) (x0 : 0 ≤ x) (x1 : x ≤ 18446744073709551615) (y0 : 0 ≤ y) (y1 : y ≤ 18446744073709551615) :
    Calls Try.prog 35 #[.string s, .agg #[.bool xn, .int .u64 x], .agg #[.bool yn, .int .u64 y]] w fun e w' => e = .returned (.tuple #[.agg #[.bool (kFold (opCode s) xn x yn y).1, .int .u64 (kFold (opCode s) xn x yn y).2.1], .int .i64 (kFold (opCode s) xn x yn y).2.2]) ∧ Below w.heap.size w w' := by
  have ho : opCode s = 3 := by simp [opCode, hs]
  cases hx : sound xn x
  · go_enter Try.func35, Try.ntmps35
    go_wp2_with (first | (go_at_call 50; refine (rsign_any _ _).mono ?_; rintro e w' ⟨rfl, rfl⟩))
    refine (rconst_any _ _ _).mono ?_
    rintro e w1 ⟨rfl, hw1⟩
    obtain ⟨hc1, hf1⟩ := bcell hw1
    have hz1 : w.heap.size + 2 < w1.heap.size := by have := hw1.size; simp at this; omega
    have hy1 : w.heap.size + 1 < w1.heap.size := by omega
    have hx1 : w.heap.size < w1.heap.size := by omega
    go_wp2
    (try simp only [Exit.inBlock, Exit.then]); refine bodyPost_ret (by (simp [results, Try.results35, go_sem, hc1, hf1, hz1]; try rfl)) rfl ?_
    refine ⟨ret_num ?_ ?_ (v_int ?_), (by repeat' (first | with_reducible assumption | with_reducible exact Below.refl _ _ | with_reducible refine Below.setCell ?_ ?_ _ | with_reducible refine Below.alloc ?_ ?_ _ | with_reducible refine Below.drew ?_ | with_reducible refine below_dn ?_ _ | refine below_two ?_ (by assumption) | omega | (simp; omega) | (simp; done)))⟩ <;> simp [kFold, ho, hx]
  cases hy : sound yn y
  · go_enter Try.func35, Try.ntmps35
    go_wp2_with (first | (go_at_call 50; refine (rsign_any _ _).mono ?_; rintro e w' ⟨rfl, rfl⟩))
    refine (rconst_any _ _ _).mono ?_
    rintro e w1 ⟨rfl, hw1⟩
    obtain ⟨hc1, hf1⟩ := bcell hw1
    have hz1 : w.heap.size + 2 < w1.heap.size := by have := hw1.size; simp at this; omega
    have hy1 : w.heap.size + 1 < w1.heap.size := by omega
    have hx1 : w.heap.size < w1.heap.size := by omega
    go_wp2_with fail
    refine (rconst_any _ _ _).mono ?_
    rintro e w2 ⟨rfl, hw2⟩
    obtain ⟨hc2, hf2⟩ := bcell hw2
    have hz2 : w.heap.size + 2 < w2.heap.size := by have := hw2.size; omega
    have hy2 : w.heap.size + 1 < w2.heap.size := by omega
    have hx2 : w.heap.size < w2.heap.size := by omega
    go_wp2
    (try simp only [Exit.inBlock, Exit.then]); refine bodyPost_ret (by (simp [results, Try.results35, go_sem, hc1, hf1, hz1, hc2, hf2, hz2]; try rfl)) rfl ?_
    refine ⟨ret_num ?_ ?_ (v_int ?_), (by repeat' (first | with_reducible assumption | with_reducible exact Below.refl _ _ | with_reducible refine Below.setCell ?_ ?_ _ | with_reducible refine Below.alloc ?_ ?_ _ | with_reducible refine Below.drew ?_ | with_reducible refine below_dn ?_ _ | refine below_two ?_ (by assumption) | omega | (simp; omega) | (simp; done)))⟩ <;> simp [kFold, ho, hx, hy]
  have hk : kMade (!xn == yn) (IntKind.u64.wrap (x * y)) (decide (x ≠ 0) && (IntKind.u64.wrap (x * y) / x != y)) = kres (kval xn x * kval yn y) := by
    have h := mul_ref xn yn x y x0 x1 y0 y1
    rwa [show (xn != yn) = (!xn == yn) by cases xn <;> cases yn <;> rfl] at h
  by_cases hx0 : x = 0
  · have hxb : (x != 0) = false := by simp [hx0]
    simp only [hx0, ne_eq, not_true_eq_false, decide_false, Bool.false_and] at hk
    rw [← hx0] at hk
    clear hx0
    go_enter Try.func35, Try.ntmps35
    go_wp2_with (first | (go_at_call 50; refine (rsign_any _ _).mono ?_; rintro e w' ⟨rfl, rfl⟩))
    refine (rconst_any _ _ _).mono ?_
    rintro e w1 ⟨rfl, hw1⟩
    obtain ⟨hc1, hf1⟩ := bcell hw1
    have hz1 : w.heap.size + 2 < w1.heap.size := by have := hw1.size; simp at this; omega
    have hy1 : w.heap.size + 1 < w1.heap.size := by omega
    have hx1 : w.heap.size < w1.heap.size := by omega
    go_wp2_with fail
    refine (rconst_any _ _ _).mono ?_
    rintro e w2 ⟨rfl, hw2⟩
    obtain ⟨hc2, hf2⟩ := bcell hw2
    have hz2 : w.heap.size + 2 < w2.heap.size := by have := hw2.size; omega
    have hy2 : w.heap.size + 1 < w2.heap.size := by omega
    have hx2 : w.heap.size < w2.heap.size := by omega
    go_wp2_with fail
    have k0 : w2.cell? ⟨w.heap.size, 0, none⟩ = some (.bool xn) := by rw [hc2 (w.heap.size) 0 hx1, hc1 (w.heap.size) 0 (by simp; try omega)]; simp [go_sem]
    have k1 : w2.cell? ⟨w.heap.size, 1, none⟩ = some (.int .u64 x) := by rw [hc2 (w.heap.size) 1 hx1, hc1 (w.heap.size) 1 (by simp; try omega)]; simp [go_sem]
    have k2 : w2.cell? ⟨w.heap.size + 1, 0, none⟩ = some (.bool yn) := by rw [hc2 (w.heap.size + 1) 0 hy1, hc1 (w.heap.size + 1) 0 (by simp; try omega)]; simp [go_sem]
    have k3 : w2.cell? ⟨w.heap.size + 1, 1, none⟩ = some (.int .u64 y) := by rw [hc2 (w.heap.size + 1) 1 hy1, hc1 (w.heap.size + 1) 1 (by simp; try omega)]; simp [go_sem]
    have r0 : w2.cell? ⟨w.heap.size + 1 + 1, 0, none⟩ = some (.bool false) := by rw [hc2 (w.heap.size + 1 + 1) 0 (by omega), hc1 (w.heap.size + 1 + 1) 0 (by simp)]; simp [go_sem]
    have z0 : w2.frozen? ⟨w.heap.size + 1 + 1, 0, none⟩ = false := by rw [hf2 (w.heap.size + 1 + 1) 0 (by omega), hf1 (w.heap.size + 1 + 1) 0 (by simp)]; simp [go_sem]
    have r1 : w2.cell? ⟨w.heap.size + 1 + 1, 1, none⟩ = some (.int .u64 0) := by rw [hc2 (w.heap.size + 1 + 1) 1 (by omega), hc1 (w.heap.size + 1 + 1) 1 (by simp)]; simp [go_sem]
    have z1 : w2.frozen? ⟨w.heap.size + 1 + 1, 1, none⟩ = false := by rw [hf2 (w.heap.size + 1 + 1) 1 (by omega), hf1 (w.heap.size + 1 + 1) 1 (by simp)]; simp [go_sem]
    refine wp_region_noPanic ?_
    refine wp_region_held_drew (S := (fun w' => w'.cell? ⟨w.heap.size, 0, none⟩ = some (.bool xn) ∧ w'.cell? ⟨w.heap.size, 1, none⟩ = some (.int .u64 x) ∧ w'.cell? ⟨w.heap.size + 1, 0, none⟩ = some (.bool yn) ∧ w'.cell? ⟨w.heap.size + 1, 1, none⟩ = some (.int .u64 y) ∧ Below w.heap.size w w')) (by kernel_rfl) ?_ (fun hHeld => ?_)
    · (try dsimp only); exact ⟨by simpa using k0, by simpa using k1, by simpa using k2, by simpa using k3, (by repeat' (first | with_reducible assumption | with_reducible exact Below.refl _ _ | with_reducible refine Below.setCell ?_ ?_ _ | with_reducible refine Below.alloc ?_ ?_ _ | with_reducible refine Below.drew ?_ | with_reducible refine below_dn ?_ _ | refine below_two ?_ (by assumption) | omega | (simp; omega) | (simp; done)))⟩
    refine h_yes 0 58 (v := ?_) rfl rfl (by kernel_rfl) (by kernel_rfl) (by kernel_rfl) (fun _ _ _ h => h) (by kernel_rfl) (by assumption) ?_ ?_
    rotate_left 1
    · (intro w hSw; (try dsimp only at hSw); go_simp; try with_reducible rfl)
    try simp only [Act.put, List.setIfInBounds_toArray, List.set_cons_zero, List.set_cons_succ]
    refine h_yes 1 59 (v := ?_) rfl rfl (by kernel_rfl) (by kernel_rfl) (by kernel_rfl) (fun _ _ _ h => h) (by kernel_rfl) (by assumption) ?_ ?_
    rotate_left 1
    · (intro w hSw; (try dsimp only at hSw); go_simp; try with_reducible rfl)
    try simp only [Act.put, List.setIfInBounds_toArray, List.set_cons_zero, List.set_cons_succ]
    refine h_yes 2 60 (v := ?_) rfl rfl (by kernel_rfl) (by kernel_rfl) (by kernel_rfl) (fun _ _ _ h => h) (by kernel_rfl) (by assumption) ?_ ?_
    rotate_left 1
    · (intro w hSw; (try dsimp only at hSw); go_simp; try with_reducible rfl)
    try simp only [Act.put, List.setIfInBounds_toArray, List.set_cons_zero, List.set_cons_succ]
    refine h_yes 3 61 (v := ?_) rfl rfl (by kernel_rfl) (by kernel_rfl) (by kernel_rfl) (fun _ _ _ h => h) (by kernel_rfl) (by assumption) ?_ ?_
    rotate_left 1
    · (intro w hSw; (try dsimp only at hSw); go_simp; try with_reducible rfl)
    try simp only [Act.put, List.setIfInBounds_toArray, List.set_cons_zero, List.set_cons_succ]
    refine h_yes 4 62 (v := ?_) rfl rfl (by kernel_rfl) (by kernel_rfl) (by kernel_rfl) (fun _ _ _ h => h) (by kernel_rfl) (by assumption) ?_ ?_
    rotate_left 1
    · (intro w hSw; (try dsimp only at hSw); go_simp; try with_reducible rfl)
    try simp only [Act.put, List.setIfInBounds_toArray, List.set_cons_zero, List.set_cons_succ]
    refine h_yes 5 63 (v := ?_) rfl rfl (by kernel_rfl) (by kernel_rfl) (by kernel_rfl) (fun _ _ _ h => h) (by kernel_rfl) (by assumption) ?_ ?_
    rotate_left 1
    · (intro w hSw; (try dsimp only at hSw); go_simp; try with_reducible rfl)
    try simp only [Act.put, List.setIfInBounds_toArray, List.set_cons_zero, List.set_cons_succ]
    refine h_yes 6 64 (v := ?_) rfl rfl (by kernel_rfl) (by kernel_rfl) (by kernel_rfl) (fun _ _ _ h => h) (by kernel_rfl) (by assumption) ?_ ?_
    rotate_left 1
    · (intro w hSw; (try dsimp only at hSw); go_simp; try with_reducible rfl)
    try simp only [Act.put, List.setIfInBounds_toArray, List.set_cons_zero, List.set_cons_succ]
    refine h_yes 7 65 (v := ?_) rfl rfl (by kernel_rfl) (by kernel_rfl) (by kernel_rfl) (fun _ _ _ h => h) (by kernel_rfl) (by assumption) ?_ ?_
    rotate_left 1
    · (intro w hSw; (try dsimp only at hSw); go_simp; try with_reducible rfl)
    try simp only [Act.put, List.setIfInBounds_toArray, List.set_cons_zero, List.set_cons_succ]
    refine h_yes 8 66 (v := ?_) rfl rfl (by kernel_rfl) (by kernel_rfl) (by kernel_rfl) (fun _ _ _ h => h) (by kernel_rfl) (by assumption) ?_ ?_
    rotate_left 1
    · (intro w hSw; (try dsimp only at hSw); go_simp; try with_reducible rfl)
    try simp only [Act.put, List.setIfInBounds_toArray, List.set_cons_zero, List.set_cons_succ]
    refine h_yes 9 67 (v := ?_) rfl rfl (by kernel_rfl) (by kernel_rfl) (by kernel_rfl) (fun _ _ _ h => h) (by kernel_rfl) (by assumption) ?_ ?_
    rotate_left 1
    · (intro w hSw; (try dsimp only at hSw); go_simp; try with_reducible rfl)
    try simp only [Act.put, List.setIfInBounds_toArray, List.set_cons_zero, List.set_cons_succ]
    refine h_yes 10 68 (v := ?_) rfl rfl (by kernel_rfl) (by kernel_rfl) (by kernel_rfl) (fun _ _ _ h => h) (by kernel_rfl) (by assumption) ?_ ?_
    rotate_left 1
    · (intro w hSw; (try dsimp only at hSw); go_simp; try with_reducible rfl)
    try simp only [Act.put, List.setIfInBounds_toArray, List.set_cons_zero, List.set_cons_succ]
    refine h_no 11 69 rfl rfl (by kernel_rfl) (by kernel_rfl) (by kernel_rfl) (fun _ _ _ h => h) (by kernel_rfl) (by assumption) ?_
    try simp only [Act.put, List.setIfInBounds_toArray, List.set_cons_zero, List.set_cons_succ]
    refine h_no 12 70 rfl rfl (by kernel_rfl) (by kernel_rfl) (by kernel_rfl) (fun _ _ _ h => h) (by kernel_rfl) (by assumption) ?_
    try simp only [Act.put, List.setIfInBounds_toArray, List.set_cons_zero, List.set_cons_succ]
    refine h_no 13 71 rfl rfl (by kernel_rfl) (by kernel_rfl) (by kernel_rfl) (fun _ _ _ h => h) (by kernel_rfl) (by assumption) ?_
    try simp only [Act.put, List.setIfInBounds_toArray, List.set_cons_zero, List.set_cons_succ]
    refine h_no 14 72 rfl rfl (by kernel_rfl) (by kernel_rfl) (by kernel_rfl) (fun _ _ _ h => h) (by kernel_rfl) (by assumption) ?_
    try simp only [Act.put, List.setIfInBounds_toArray, List.set_cons_zero, List.set_cons_succ]
    refine h_no 15 73 rfl rfl (by kernel_rfl) (by kernel_rfl) (by kernel_rfl) (fun _ _ _ h => h) (by kernel_rfl) (by assumption) ?_
    try simp only [Act.put, List.setIfInBounds_toArray, List.set_cons_zero, List.set_cons_succ]
    refine h_no 16 74 rfl rfl (by kernel_rfl) (by kernel_rfl) (by kernel_rfl) (fun _ _ _ h => h) (by kernel_rfl) (by assumption) ?_
    try simp only [Act.put, List.setIfInBounds_toArray, List.set_cons_zero, List.set_cons_succ]
    refine h_no 17 75 rfl rfl (by kernel_rfl) (by kernel_rfl) (by kernel_rfl) (fun _ _ _ h => h) (by kernel_rfl) (by assumption) ?_
    try simp only [Act.put, List.setIfInBounds_toArray, List.set_cons_zero, List.set_cons_succ]
    refine h_yes 18 76 (v := ?_) rfl rfl (by kernel_rfl) (by kernel_rfl) (by kernel_rfl) (fun _ _ _ h => h) (by kernel_rfl) (by assumption) ?_ ?_
    rotate_left 1
    · (intro w hSw; (try dsimp only at hSw); go_simp; try with_reducible rfl)
    try simp only [Act.put, List.setIfInBounds_toArray, List.set_cons_zero, List.set_cons_succ]
    refine h_step 19 rfl (by kernel_rfl) (by kernel_rfl) (fun K hK => ?_)
    go_simp
    refine (told_any _ _ _ _).mono ?_
    rintro e w3 ⟨rfl, hw3⟩
    obtain ⟨hc3, hf3⟩ := bcell hw3
    have hz3 : w.heap.size + 2 < w3.heap.size := by have := hw3.size; simp at this; omega
    have hy3 : w.heap.size + 1 < w3.heap.size := by omega
    have hx3 : w.heap.size < w3.heap.size := by omega
    have m0 : w3.cell? ⟨w.heap.size, 0, none⟩ = some (.bool xn) := by rw [hc3 (w.heap.size) 0 (by simpa using hx2)]; simpa using k0
    have m1 : w3.cell? ⟨w.heap.size, 1, none⟩ = some (.int .u64 x) := by rw [hc3 (w.heap.size) 1 (by simpa using hx2)]; simpa using k1
    have m2 : w3.cell? ⟨w.heap.size + 1, 0, none⟩ = some (.bool yn) := by rw [hc3 (w.heap.size + 1) 0 (by simpa using hy2)]; simpa using k2
    have m3 : w3.cell? ⟨w.heap.size + 1, 1, none⟩ = some (.int .u64 y) := by rw [hc3 (w.heap.size + 1) 1 (by simpa using hy2)]; simpa using k3
    have s0 : w3.cell? ⟨w.heap.size + 1 + 1, 0, none⟩ = some (.bool false) := by rw [hc3 (w.heap.size + 1 + 1) 0 (by simp; omega)]; simpa using r0
    have t0 : w3.frozen? ⟨w.heap.size + 1 + 1, 0, none⟩ = false := by rw [hf3 (w.heap.size + 1 + 1) 0 (by simp; omega)]; simpa using z0
    have s1 : w3.cell? ⟨w.heap.size + 1 + 1, 1, none⟩ = some (.int .u64 0) := by rw [hc3 (w.heap.size + 1 + 1) 1 (by simp; omega)]; simpa using r1
    have t1 : w3.frozen? ⟨w.heap.size + 1 + 1, 1, none⟩ = false := by rw [hf3 (w.heap.size + 1 + 1) 1 (by simp; omega)]; simpa using z1
    go_wp2_with fail
    refine hK.out _ _ ?_ (fun hHeld => ?_)
    · (try dsimp only); exact ⟨m0, m1, m2, m3, (by repeat' (first | with_reducible assumption | with_reducible exact Below.refl _ _ | with_reducible refine Below.setCell ?_ ?_ _ | with_reducible refine Below.alloc ?_ ?_ _ | with_reducible refine Below.drew ?_ | with_reducible refine below_dn ?_ _ | refine below_two ?_ (by assumption) | omega | (simp; omega) | (simp; done)))⟩
    clear hK K
    try simp only [Act.put, List.setIfInBounds_toArray, List.set_cons_zero, List.set_cons_succ]
    refine h_yes 20 78 (v := ?_) rfl rfl (by kernel_rfl) (by kernel_rfl) (by kernel_rfl) (fun _ _ _ h => h) (by kernel_rfl) (by assumption) ?_ ?_
    rotate_left 1
    · (intro w hSw; (try dsimp only at hSw); go_simp; try with_reducible rfl)
    try simp only [Act.put, List.setIfInBounds_toArray, List.set_cons_zero, List.set_cons_succ]
    refine h_yes 21 79 (v := ?_) rfl rfl (by kernel_rfl) (by kernel_rfl) (by kernel_rfl) (fun _ _ _ h => h) (by kernel_rfl) (by assumption) ?_ ?_
    rotate_left 1
    · (intro w hSw; (try dsimp only at hSw); go_simp; try with_reducible rfl)
    try simp only [Act.put, List.setIfInBounds_toArray, List.set_cons_zero, List.set_cons_succ]
    refine h_step 22 rfl (by kernel_rfl) (by kernel_rfl) (fun K hK => ?_)
    go_simp
    refine hK.out _ _ ?_ (fun hHeld => ?_)
    · (try dsimp only); exact ⟨by simp [m0, go_sem], by simp [m1, go_sem], by simp [m2, go_sem], by simp [m3, go_sem], (by repeat' (first | with_reducible assumption | with_reducible exact Below.refl _ _ | with_reducible refine Below.setCell ?_ ?_ _ | with_reducible refine Below.alloc ?_ ?_ _ | with_reducible refine Below.drew ?_ | with_reducible refine below_dn ?_ _ | refine below_two ?_ (by assumption) | omega | (simp; omega) | (simp; done)))⟩
    clear hK K
    try simp only [Act.put, List.setIfInBounds_toArray, List.set_cons_zero, List.set_cons_succ]
    refine h_yes 23 7 (v := ?_) rfl rfl (by kernel_rfl) (by kernel_rfl) (by kernel_rfl) (fun _ _ _ h => h) (by kernel_rfl) (by assumption) ?_ ?_
    rotate_left 1
    · (intro w hSw; (try dsimp only at hSw); go_simp; try with_reducible rfl)
    try simp only [Act.put, List.setIfInBounds_toArray, List.set_cons_zero, List.set_cons_succ]
    refine wpAnyH_done (by kernel_rfl) ?_ _
    refine NoPanic.normal ?_
    go_wp2
    (try simp only [Exit.inBlock, Exit.then]); refine bodyPost_ret (by (simp [results, Try.results35, go_sem, s0, s1, t0, t1]; try rfl)) rfl ?_
    refine ⟨ret_num ?_ ?_ (v_int ?_), (by repeat' (first | with_reducible assumption | with_reducible exact Below.refl _ _ | with_reducible refine Below.setCell ?_ ?_ _ | with_reducible refine Below.alloc ?_ ?_ _ | with_reducible refine Below.drew ?_ | with_reducible refine below_dn ?_ _ | refine below_two ?_ (by assumption) | omega | (simp; omega) | (simp; done)))⟩ <;> simp [kFold, ho, hx, hy]
  · have hxb : (x != 0) = true := by simp [hx0]
    have hq := quo_wrap x y x0 hx0
    have hq0 : 0 ≤ y := y0
    simp only [ne_eq, hx0, not_false_eq_true, decide_true, Bool.true_and] at hk
    have HQ := Lib.hid hq
    have HK := Lib.hid hk
    clear hq hk
    go_enter Try.func35, Try.ntmps35
    go_wp2_with (first | (go_at_call 50; refine (rsign_any _ _).mono ?_; rintro e w' ⟨rfl, rfl⟩))
    refine (rconst_any _ _ _).mono ?_
    rintro e w1 ⟨rfl, hw1⟩
    obtain ⟨hc1, hf1⟩ := bcell hw1
    have hz1 : w.heap.size + 2 < w1.heap.size := by have := hw1.size; simp at this; omega
    have hy1 : w.heap.size + 1 < w1.heap.size := by omega
    have hx1 : w.heap.size < w1.heap.size := by omega
    go_wp2_with fail
    refine (rconst_any _ _ _).mono ?_
    rintro e w2 ⟨rfl, hw2⟩
    obtain ⟨hc2, hf2⟩ := bcell hw2
    have hz2 : w.heap.size + 2 < w2.heap.size := by have := hw2.size; omega
    have hy2 : w.heap.size + 1 < w2.heap.size := by omega
    have hx2 : w.heap.size < w2.heap.size := by omega
    go_wp2_with fail
    have k0 : w2.cell? ⟨w.heap.size, 0, none⟩ = some (.bool xn) := by rw [hc2 (w.heap.size) 0 hx1, hc1 (w.heap.size) 0 (by simp; try omega)]; simp [go_sem]
    have k1 : w2.cell? ⟨w.heap.size, 1, none⟩ = some (.int .u64 x) := by rw [hc2 (w.heap.size) 1 hx1, hc1 (w.heap.size) 1 (by simp; try omega)]; simp [go_sem]
    have k2 : w2.cell? ⟨w.heap.size + 1, 0, none⟩ = some (.bool yn) := by rw [hc2 (w.heap.size + 1) 0 hy1, hc1 (w.heap.size + 1) 0 (by simp; try omega)]; simp [go_sem]
    have k3 : w2.cell? ⟨w.heap.size + 1, 1, none⟩ = some (.int .u64 y) := by rw [hc2 (w.heap.size + 1) 1 hy1, hc1 (w.heap.size + 1) 1 (by simp; try omega)]; simp [go_sem]
    have r0 : w2.cell? ⟨w.heap.size + 1 + 1, 0, none⟩ = some (.bool false) := by rw [hc2 (w.heap.size + 1 + 1) 0 (by omega), hc1 (w.heap.size + 1 + 1) 0 (by simp)]; simp [go_sem]
    have z0 : w2.frozen? ⟨w.heap.size + 1 + 1, 0, none⟩ = false := by rw [hf2 (w.heap.size + 1 + 1) 0 (by omega), hf1 (w.heap.size + 1 + 1) 0 (by simp)]; simp [go_sem]
    have r1 : w2.cell? ⟨w.heap.size + 1 + 1, 1, none⟩ = some (.int .u64 0) := by rw [hc2 (w.heap.size + 1 + 1) 1 (by omega), hc1 (w.heap.size + 1 + 1) 1 (by simp)]; simp [go_sem]
    have z1 : w2.frozen? ⟨w.heap.size + 1 + 1, 1, none⟩ = false := by rw [hf2 (w.heap.size + 1 + 1) 1 (by omega), hf1 (w.heap.size + 1 + 1) 1 (by simp)]; simp [go_sem]
    go_region_held3 (fun w' => w'.cell? ⟨w.heap.size, 0, none⟩ = some (.bool xn) ∧ w'.cell? ⟨w.heap.size, 1, none⟩ = some (.int .u64 x) ∧ w'.cell? ⟨w.heap.size + 1, 0, none⟩ = some (.bool yn) ∧ w'.cell? ⟨w.heap.size + 1, 1, none⟩ = some (.int .u64 y) ∧ Below w.heap.size w w') (first | exact ⟨by simpa using k0, by simpa using k1, by simpa using k2, by simpa using k3, (by repeat' (first | with_reducible assumption | with_reducible exact Below.refl _ _ | with_reducible refine Below.setCell ?_ ?_ _ | with_reducible refine Below.alloc ?_ ?_ _ | with_reducible refine Below.drew ?_ | with_reducible refine below_dn ?_ _ | refine below_two ?_ (by assumption) | omega | (simp; omega) | (simp; done)))⟩ | exact ⟨m0, m1, m2, m3, (by repeat' (first | with_reducible assumption | with_reducible exact Below.refl _ _ | with_reducible refine Below.setCell ?_ ?_ _ | with_reducible refine Below.alloc ?_ ?_ _ | with_reducible refine Below.drew ?_ | with_reducible refine below_dn ?_ _ | refine below_two ?_ (by assumption) | omega | (simp; omega) | (simp; done)))⟩ | exact ⟨by simp [m0, go_sem], by simp [m1, go_sem], by simp [m2, go_sem], by simp [m3, go_sem], (by repeat' (first | with_reducible assumption | with_reducible exact Below.refl _ _ | with_reducible refine Below.setCell ?_ ?_ _ | with_reducible refine Below.alloc ?_ ?_ _ | with_reducible refine Below.drew ?_ | with_reducible refine below_dn ?_ _ | refine below_two ?_ (by assumption) | omega | (simp; omega) | (simp; done)))⟩) (first | (go_at_call 60; refine (told_any _ _ _ _).mono ?_; rintro e w3 ⟨rfl, hw3⟩; obtain ⟨hc3, hf3⟩ := bcell hw3; have hz3 : w.heap.size + 2 < w3.heap.size := (by have := hw3.size; simp at this; omega); have hy3 : w.heap.size + 1 < w3.heap.size := (by omega); have hx3 : w.heap.size < w3.heap.size := (by omega); have m0 : w3.cell? ⟨w.heap.size, 0, none⟩ = some (.bool xn) := (by rw [hc3 (w.heap.size) 0 (by simpa using hx2)]; simpa using k0) ; have m1 : w3.cell? ⟨w.heap.size, 1, none⟩ = some (.int .u64 x) := (by rw [hc3 (w.heap.size) 1 (by simpa using hx2)]; simpa using k1) ; have m2 : w3.cell? ⟨w.heap.size + 1, 0, none⟩ = some (.bool yn) := (by rw [hc3 (w.heap.size + 1) 0 (by simpa using hy2)]; simpa using k2) ; have m3 : w3.cell? ⟨w.heap.size + 1, 1, none⟩ = some (.int .u64 y) := (by rw [hc3 (w.heap.size + 1) 1 (by simpa using hy2)]; simpa using k3) ; have s0 : w3.cell? ⟨w.heap.size + 1 + 1, 0, none⟩ = some (.bool false) := (by rw [hc3 (w.heap.size + 1 + 1) 0 (by simp; omega)]; simpa using r0) ; have t0 : w3.frozen? ⟨w.heap.size + 1 + 1, 0, none⟩ = false := (by rw [hf3 (w.heap.size + 1 + 1) 0 (by simp; omega)]; simpa using z0) ; have s1 : w3.cell? ⟨w.heap.size + 1 + 1, 1, none⟩ = some (.int .u64 0) := (by rw [hc3 (w.heap.size + 1 + 1) 1 (by simp; omega)]; simpa using r1) ; have t1 : w3.frozen? ⟨w.heap.size + 1 + 1, 1, none⟩ = false := (by rw [hf3 (w.heap.size + 1 + 1) 1 (by simp; omega)]; simpa using z1)))
    all_goals go_wp2
    (try simp only [Exit.inBlock, Exit.then]); refine bodyPost_ret (by (simp [results, Try.results35, go_sem, s0, s1, t0, t1]; try rfl)) rfl ?_
    refine ⟨ret_num ?_ ?_ (v_int ?_), (by repeat' (first | with_reducible assumption | with_reducible exact Below.refl _ _ | with_reducible refine Below.setCell ?_ ?_ _ | with_reducible refine Below.alloc ?_ ?_ _ | with_reducible refine Below.drew ?_ | with_reducible refine below_dn ?_ _ | refine below_two ?_ (by assumption) | omega | (simp; omega) | (simp; done)))⟩ <;> simp [kFold, ho, hx, hy, HQ.out, HK.out]
set_option maxHeartbeats 2000000 in
set_option maxRecDepth 100000 in
theorem rfold_and (xn yn : Bool) (x y : Int) (s : ByteArray) (hs : s.toList = [38]) (w : World) (x0 : 0 ≤ x) (x1 : x ≤ 18446744073709551615) (y0 : 0 ≤ y) (y1 : y ≤ 18446744073709551615) :
    Calls Try.prog 35 #[.string s, .agg #[.bool xn, .int .u64 x], .agg #[.bool yn, .int .u64 y]] w fun e w' => e = .returned (.tuple #[.agg #[.bool (kFold (opCode s) xn x yn y).1, .int .u64 (kFold (opCode s) xn x yn y).2.1], .int .i64 (kFold (opCode s) xn x yn y).2.2]) ∧ Below w.heap.size w w' := by
  have ho : opCode s = 6 := by simp [opCode, hs]
  cases hx : sound xn x
  · go_enter Try.func35, Try.ntmps35
    go_wp2_with (first | (go_at_call 50; refine (rsign_any _ _).mono ?_; rintro e w' ⟨rfl, rfl⟩))
    refine (rconst_any _ _ _).mono ?_
    rintro e w1 ⟨rfl, hw1⟩
    obtain ⟨hc1, hf1⟩ := bcell hw1
    have hz1 : w.heap.size + 2 < w1.heap.size := by have := hw1.size; simp at this; omega
    have hy1 : w.heap.size + 1 < w1.heap.size := by omega
    have hx1 : w.heap.size < w1.heap.size := by omega
    go_wp2
    (try simp only [Exit.inBlock, Exit.then]); refine bodyPost_ret (by (simp [results, Try.results35, go_sem, hc1, hf1, hz1]; try rfl)) rfl ?_
    refine ⟨ret_num ?_ ?_ (v_int ?_), (by repeat' (first | with_reducible assumption | with_reducible exact Below.refl _ _ | with_reducible refine Below.setCell ?_ ?_ _ | with_reducible refine Below.alloc ?_ ?_ _ | with_reducible refine Below.drew ?_ | with_reducible refine below_dn ?_ _ | refine below_two ?_ (by assumption) | omega | (simp; omega) | (simp; done)))⟩ <;> simp [kFold, ho, hx]
  cases hy : sound yn y
  · go_enter Try.func35, Try.ntmps35
    go_wp2_with (first | (go_at_call 50; refine (rsign_any _ _).mono ?_; rintro e w' ⟨rfl, rfl⟩))
    refine (rconst_any _ _ _).mono ?_
    rintro e w1 ⟨rfl, hw1⟩
    obtain ⟨hc1, hf1⟩ := bcell hw1
    have hz1 : w.heap.size + 2 < w1.heap.size := by have := hw1.size; simp at this; omega
    have hy1 : w.heap.size + 1 < w1.heap.size := by omega
    have hx1 : w.heap.size < w1.heap.size := by omega
    go_wp2_with fail
    refine (rconst_any _ _ _).mono ?_
    rintro e w2 ⟨rfl, hw2⟩
    obtain ⟨hc2, hf2⟩ := bcell hw2
    have hz2 : w.heap.size + 2 < w2.heap.size := by have := hw2.size; omega
    have hy2 : w.heap.size + 1 < w2.heap.size := by omega
    have hx2 : w.heap.size < w2.heap.size := by omega
    go_wp2
    (try simp only [Exit.inBlock, Exit.then]); refine bodyPost_ret (by (simp [results, Try.results35, go_sem, hc1, hf1, hz1, hc2, hf2, hz2]; try rfl)) rfl ?_
    refine ⟨ret_num ?_ ?_ (v_int ?_), (by repeat' (first | with_reducible assumption | with_reducible exact Below.refl _ _ | with_reducible refine Below.setCell ?_ ?_ _ | with_reducible refine Below.alloc ?_ ?_ _ | with_reducible refine Below.drew ?_ | with_reducible refine below_dn ?_ _ | refine below_two ?_ (by assumption) | omega | (simp; omega) | (simp; done)))⟩ <;> simp [kFold, ho, hx, hy]
  have hk := raw_bits 6 .and (by simp) x y x0 x1 y0 y1
  cases xn <;> cases yn
  all_goals
    go_enter Try.func35, Try.ntmps35
    go_wp2_with (first | (go_at_call 50; refine (rsign_any _ _).mono ?_; rintro e w' ⟨rfl, rfl⟩))
    refine (rconst_any _ _ _).mono ?_
    rintro e w1 ⟨rfl, hw1⟩
    obtain ⟨hc1, hf1⟩ := bcell hw1
    have hz1 : w.heap.size + 2 < w1.heap.size := by have := hw1.size; simp at this; omega
    have hy1 : w.heap.size + 1 < w1.heap.size := by omega
    have hx1 : w.heap.size < w1.heap.size := by omega
    go_wp2_with fail
    refine (rconst_any _ _ _).mono ?_
    rintro e w2 ⟨rfl, hw2⟩
    obtain ⟨hc2, hf2⟩ := bcell hw2
    have hz2 : w.heap.size + 2 < w2.heap.size := by have := hw2.size; omega
    have hy2 : w.heap.size + 1 < w2.heap.size := by omega
    have hx2 : w.heap.size < w2.heap.size := by omega
    go_wp2_with (first | (go_at_call 53; refine (rbitwise_and x y s hs _ x0 x1 y0 y1).mono ?_; rintro e w' ⟨rfl, rfl⟩))
    (try simp only [Exit.inBlock, Exit.then]); refine bodyPost_ret (by (simp [results, Try.results35, go_sem, hc1, hf1, hz1, hc2, hf2, hz2]; try rfl)) rfl ?_
    refine ⟨ret_num ?_ ?_ (v_int ?_), (by repeat' (first | with_reducible assumption | with_reducible exact Below.refl _ _ | with_reducible refine Below.setCell ?_ ?_ _ | with_reducible refine Below.alloc ?_ ?_ _ | with_reducible refine Below.drew ?_ | with_reducible refine below_dn ?_ _ | refine below_two ?_ (by assumption) | omega | (simp; omega) | (simp; done)))⟩ <;> simp [kFold, ho, hx, hy]
set_option maxHeartbeats 2000000 in
set_option maxRecDepth 100000 in
theorem rfold_or (xn yn : Bool) (x y : Int) (s : ByteArray) (hs : s.toList = [124]) (w : World) (x0 : 0 ≤ x) (x1 : x ≤ 18446744073709551615) (y0 : 0 ≤ y) (y1 : y ≤ 18446744073709551615) :
    Calls Try.prog 35 #[.string s, .agg #[.bool xn, .int .u64 x], .agg #[.bool yn, .int .u64 y]] w fun e w' => e = .returned (.tuple #[.agg #[.bool (kFold (opCode s) xn x yn y).1, .int .u64 (kFold (opCode s) xn x yn y).2.1], .int .i64 (kFold (opCode s) xn x yn y).2.2]) ∧ Below w.heap.size w w' := by
  have ho : opCode s = 7 := by simp [opCode, hs]
  cases hx : sound xn x
  · go_enter Try.func35, Try.ntmps35
    go_wp2_with (first | (go_at_call 50; refine (rsign_any _ _).mono ?_; rintro e w' ⟨rfl, rfl⟩))
    refine (rconst_any _ _ _).mono ?_
    rintro e w1 ⟨rfl, hw1⟩
    obtain ⟨hc1, hf1⟩ := bcell hw1
    have hz1 : w.heap.size + 2 < w1.heap.size := by have := hw1.size; simp at this; omega
    have hy1 : w.heap.size + 1 < w1.heap.size := by omega
    have hx1 : w.heap.size < w1.heap.size := by omega
    go_wp2
    (try simp only [Exit.inBlock, Exit.then]); refine bodyPost_ret (by (simp [results, Try.results35, go_sem, hc1, hf1, hz1]; try rfl)) rfl ?_
    refine ⟨ret_num ?_ ?_ (v_int ?_), (by repeat' (first | with_reducible assumption | with_reducible exact Below.refl _ _ | with_reducible refine Below.setCell ?_ ?_ _ | with_reducible refine Below.alloc ?_ ?_ _ | with_reducible refine Below.drew ?_ | with_reducible refine below_dn ?_ _ | refine below_two ?_ (by assumption) | omega | (simp; omega) | (simp; done)))⟩ <;> simp [kFold, ho, hx]
  cases hy : sound yn y
  · go_enter Try.func35, Try.ntmps35
    go_wp2_with (first | (go_at_call 50; refine (rsign_any _ _).mono ?_; rintro e w' ⟨rfl, rfl⟩))
    refine (rconst_any _ _ _).mono ?_
    rintro e w1 ⟨rfl, hw1⟩
    obtain ⟨hc1, hf1⟩ := bcell hw1
    have hz1 : w.heap.size + 2 < w1.heap.size := by have := hw1.size; simp at this; omega
    have hy1 : w.heap.size + 1 < w1.heap.size := by omega
    have hx1 : w.heap.size < w1.heap.size := by omega
    go_wp2_with fail
    refine (rconst_any _ _ _).mono ?_
    rintro e w2 ⟨rfl, hw2⟩
    obtain ⟨hc2, hf2⟩ := bcell hw2
    have hz2 : w.heap.size + 2 < w2.heap.size := by have := hw2.size; omega
    have hy2 : w.heap.size + 1 < w2.heap.size := by omega
    have hx2 : w.heap.size < w2.heap.size := by omega
    go_wp2
    (try simp only [Exit.inBlock, Exit.then]); refine bodyPost_ret (by (simp [results, Try.results35, go_sem, hc1, hf1, hz1, hc2, hf2, hz2]; try rfl)) rfl ?_
    refine ⟨ret_num ?_ ?_ (v_int ?_), (by repeat' (first | with_reducible assumption | with_reducible exact Below.refl _ _ | with_reducible refine Below.setCell ?_ ?_ _ | with_reducible refine Below.alloc ?_ ?_ _ | with_reducible refine Below.drew ?_ | with_reducible refine below_dn ?_ _ | refine below_two ?_ (by assumption) | omega | (simp; omega) | (simp; done)))⟩ <;> simp [kFold, ho, hx, hy]
  have hk := raw_bits 7 .or (by simp) x y x0 x1 y0 y1
  cases xn <;> cases yn
  all_goals
    go_enter Try.func35, Try.ntmps35
    go_wp2_with (first | (go_at_call 50; refine (rsign_any _ _).mono ?_; rintro e w' ⟨rfl, rfl⟩))
    refine (rconst_any _ _ _).mono ?_
    rintro e w1 ⟨rfl, hw1⟩
    obtain ⟨hc1, hf1⟩ := bcell hw1
    have hz1 : w.heap.size + 2 < w1.heap.size := by have := hw1.size; simp at this; omega
    have hy1 : w.heap.size + 1 < w1.heap.size := by omega
    have hx1 : w.heap.size < w1.heap.size := by omega
    go_wp2_with fail
    refine (rconst_any _ _ _).mono ?_
    rintro e w2 ⟨rfl, hw2⟩
    obtain ⟨hc2, hf2⟩ := bcell hw2
    have hz2 : w.heap.size + 2 < w2.heap.size := by have := hw2.size; omega
    have hy2 : w.heap.size + 1 < w2.heap.size := by omega
    have hx2 : w.heap.size < w2.heap.size := by omega
    go_wp2_with (first | (go_at_call 53; refine (rbitwise_or x y s hs _ x0 x1 y0 y1).mono ?_; rintro e w' ⟨rfl, rfl⟩))
    (try simp only [Exit.inBlock, Exit.then]); refine bodyPost_ret (by (simp [results, Try.results35, go_sem, hc1, hf1, hz1, hc2, hf2, hz2]; try rfl)) rfl ?_
    refine ⟨ret_num ?_ ?_ (v_int ?_), (by repeat' (first | with_reducible assumption | with_reducible exact Below.refl _ _ | with_reducible refine Below.setCell ?_ ?_ _ | with_reducible refine Below.alloc ?_ ?_ _ | with_reducible refine Below.drew ?_ | with_reducible refine below_dn ?_ _ | refine below_two ?_ (by assumption) | omega | (simp; omega) | (simp; done)))⟩ <;> simp [kFold, ho, hx, hy]
set_option maxHeartbeats 2000000 in
set_option maxRecDepth 100000 in
theorem rfold_xor (xn yn : Bool) (x y : Int) (s : ByteArray) (hs : s.toList = [94]) (w : World) (x0 : 0 ≤ x) (x1 : x ≤ 18446744073709551615) (y0 : 0 ≤ y) (y1 : y ≤ 18446744073709551615) :
    Calls Try.prog 35 #[.string s, .agg #[.bool xn, .int .u64 x], .agg #[.bool yn, .int .u64 y]] w fun e w' => e = .returned (.tuple #[.agg #[.bool (kFold (opCode s) xn x yn y).1, .int .u64 (kFold (opCode s) xn x yn y).2.1], .int .i64 (kFold (opCode s) xn x yn y).2.2]) ∧ Below w.heap.size w w' := by
  have ho : opCode s = 8 := by simp [opCode, hs]
  cases hx : sound xn x
  · go_enter Try.func35, Try.ntmps35
    go_wp2_with (first | (go_at_call 50; refine (rsign_any _ _).mono ?_; rintro e w' ⟨rfl, rfl⟩))
    refine (rconst_any _ _ _).mono ?_
    rintro e w1 ⟨rfl, hw1⟩
    obtain ⟨hc1, hf1⟩ := bcell hw1
    have hz1 : w.heap.size + 2 < w1.heap.size := by have := hw1.size; simp at this; omega
    have hy1 : w.heap.size + 1 < w1.heap.size := by omega
    have hx1 : w.heap.size < w1.heap.size := by omega
    go_wp2
    (try simp only [Exit.inBlock, Exit.then]); refine bodyPost_ret (by (simp [results, Try.results35, go_sem, hc1, hf1, hz1]; try rfl)) rfl ?_
    refine ⟨ret_num ?_ ?_ (v_int ?_), (by repeat' (first | with_reducible assumption | with_reducible exact Below.refl _ _ | with_reducible refine Below.setCell ?_ ?_ _ | with_reducible refine Below.alloc ?_ ?_ _ | with_reducible refine Below.drew ?_ | with_reducible refine below_dn ?_ _ | refine below_two ?_ (by assumption) | omega | (simp; omega) | (simp; done)))⟩ <;> simp [kFold, ho, hx]
  cases hy : sound yn y
  · go_enter Try.func35, Try.ntmps35
    go_wp2_with (first | (go_at_call 50; refine (rsign_any _ _).mono ?_; rintro e w' ⟨rfl, rfl⟩))
    refine (rconst_any _ _ _).mono ?_
    rintro e w1 ⟨rfl, hw1⟩
    obtain ⟨hc1, hf1⟩ := bcell hw1
    have hz1 : w.heap.size + 2 < w1.heap.size := by have := hw1.size; simp at this; omega
    have hy1 : w.heap.size + 1 < w1.heap.size := by omega
    have hx1 : w.heap.size < w1.heap.size := by omega
    go_wp2_with fail
    refine (rconst_any _ _ _).mono ?_
    rintro e w2 ⟨rfl, hw2⟩
    obtain ⟨hc2, hf2⟩ := bcell hw2
    have hz2 : w.heap.size + 2 < w2.heap.size := by have := hw2.size; omega
    have hy2 : w.heap.size + 1 < w2.heap.size := by omega
    have hx2 : w.heap.size < w2.heap.size := by omega
    go_wp2
    (try simp only [Exit.inBlock, Exit.then]); refine bodyPost_ret (by (simp [results, Try.results35, go_sem, hc1, hf1, hz1, hc2, hf2, hz2]; try rfl)) rfl ?_
    refine ⟨ret_num ?_ ?_ (v_int ?_), (by repeat' (first | with_reducible assumption | with_reducible exact Below.refl _ _ | with_reducible refine Below.setCell ?_ ?_ _ | with_reducible refine Below.alloc ?_ ?_ _ | with_reducible refine Below.drew ?_ | with_reducible refine below_dn ?_ _ | refine below_two ?_ (by assumption) | omega | (simp; omega) | (simp; done)))⟩ <;> simp [kFold, ho, hx, hy]
  have hk := raw_bits 8 .xor (by simp) x y x0 x1 y0 y1
  cases xn <;> cases yn
  all_goals
    go_enter Try.func35, Try.ntmps35
    go_wp2_with (first | (go_at_call 50; refine (rsign_any _ _).mono ?_; rintro e w' ⟨rfl, rfl⟩))
    refine (rconst_any _ _ _).mono ?_
    rintro e w1 ⟨rfl, hw1⟩
    obtain ⟨hc1, hf1⟩ := bcell hw1
    have hz1 : w.heap.size + 2 < w1.heap.size := by have := hw1.size; simp at this; omega
    have hy1 : w.heap.size + 1 < w1.heap.size := by omega
    have hx1 : w.heap.size < w1.heap.size := by omega
    go_wp2_with fail
    refine (rconst_any _ _ _).mono ?_
    rintro e w2 ⟨rfl, hw2⟩
    obtain ⟨hc2, hf2⟩ := bcell hw2
    have hz2 : w.heap.size + 2 < w2.heap.size := by have := hw2.size; omega
    have hy2 : w.heap.size + 1 < w2.heap.size := by omega
    have hx2 : w.heap.size < w2.heap.size := by omega
    go_wp2_with (first | (go_at_call 53; refine (rbitwise_xor x y s hs _ x0 x1 y0 y1).mono ?_; rintro e w' ⟨rfl, rfl⟩))
    (try simp only [Exit.inBlock, Exit.then]); refine bodyPost_ret (by (simp [results, Try.results35, go_sem, hc1, hf1, hz1, hc2, hf2, hz2]; try rfl)) rfl ?_
    refine ⟨ret_num ?_ ?_ (v_int ?_), (by repeat' (first | with_reducible assumption | with_reducible exact Below.refl _ _ | with_reducible refine Below.setCell ?_ ?_ _ | with_reducible refine Below.alloc ?_ ?_ _ | with_reducible refine Below.drew ?_ | with_reducible refine below_dn ?_ _ | refine below_two ?_ (by assumption) | omega | (simp; omega) | (simp; done)))⟩ <;> simp [kFold, ho, hx, hy]
set_option maxHeartbeats 2000000 in
set_option maxRecDepth 100000 in
theorem rfold_not (xn yn : Bool) (x y : Int) (s : ByteArray) (hs : s.toList = [38, 94]) (w : World) (x0 : 0 ≤ x) (x1 : x ≤ 18446744073709551615) (y0 : 0 ≤ y) (y1 : y ≤ 18446744073709551615) :
    Calls Try.prog 35 #[.string s, .agg #[.bool xn, .int .u64 x], .agg #[.bool yn, .int .u64 y]] w fun e w' => e = .returned (.tuple #[.agg #[.bool (kFold (opCode s) xn x yn y).1, .int .u64 (kFold (opCode s) xn x yn y).2.1], .int .i64 (kFold (opCode s) xn x yn y).2.2]) ∧ Below w.heap.size w w' := by
  have ho : opCode s = 9 := by simp [opCode, hs]
  cases hx : sound xn x
  · go_enter Try.func35, Try.ntmps35
    go_wp2_with (first | (go_at_call 50; refine (rsign_any _ _).mono ?_; rintro e w' ⟨rfl, rfl⟩))
    refine (rconst_any _ _ _).mono ?_
    rintro e w1 ⟨rfl, hw1⟩
    obtain ⟨hc1, hf1⟩ := bcell hw1
    have hz1 : w.heap.size + 2 < w1.heap.size := by have := hw1.size; simp at this; omega
    have hy1 : w.heap.size + 1 < w1.heap.size := by omega
    have hx1 : w.heap.size < w1.heap.size := by omega
    go_wp2
    (try simp only [Exit.inBlock, Exit.then]); refine bodyPost_ret (by (simp [results, Try.results35, go_sem, hc1, hf1, hz1]; try rfl)) rfl ?_
    refine ⟨ret_num ?_ ?_ (v_int ?_), (by repeat' (first | with_reducible assumption | with_reducible exact Below.refl _ _ | with_reducible refine Below.setCell ?_ ?_ _ | with_reducible refine Below.alloc ?_ ?_ _ | with_reducible refine Below.drew ?_ | with_reducible refine below_dn ?_ _ | refine below_two ?_ (by assumption) | omega | (simp; omega) | (simp; done)))⟩ <;> simp [kFold, ho, hx]
  cases hy : sound yn y
  · go_enter Try.func35, Try.ntmps35
    go_wp2_with (first | (go_at_call 50; refine (rsign_any _ _).mono ?_; rintro e w' ⟨rfl, rfl⟩))
    refine (rconst_any _ _ _).mono ?_
    rintro e w1 ⟨rfl, hw1⟩
    obtain ⟨hc1, hf1⟩ := bcell hw1
    have hz1 : w.heap.size + 2 < w1.heap.size := by have := hw1.size; simp at this; omega
    have hy1 : w.heap.size + 1 < w1.heap.size := by omega
    have hx1 : w.heap.size < w1.heap.size := by omega
    go_wp2_with fail
    refine (rconst_any _ _ _).mono ?_
    rintro e w2 ⟨rfl, hw2⟩
    obtain ⟨hc2, hf2⟩ := bcell hw2
    have hz2 : w.heap.size + 2 < w2.heap.size := by have := hw2.size; omega
    have hy2 : w.heap.size + 1 < w2.heap.size := by omega
    have hx2 : w.heap.size < w2.heap.size := by omega
    go_wp2
    (try simp only [Exit.inBlock, Exit.then]); refine bodyPost_ret (by (simp [results, Try.results35, go_sem, hc1, hf1, hz1, hc2, hf2, hz2]; try rfl)) rfl ?_
    refine ⟨ret_num ?_ ?_ (v_int ?_), (by repeat' (first | with_reducible assumption | with_reducible exact Below.refl _ _ | with_reducible refine Below.setCell ?_ ?_ _ | with_reducible refine Below.alloc ?_ ?_ _ | with_reducible refine Below.drew ?_ | with_reducible refine below_dn ?_ _ | refine below_two ?_ (by assumption) | omega | (simp; omega) | (simp; done)))⟩ <;> simp [kFold, ho, hx, hy]
  have hk := raw_bits 9 .andNot (by simp) x y x0 x1 y0 y1
  cases xn <;> cases yn
  all_goals
    go_enter Try.func35, Try.ntmps35
    go_wp2_with (first | (go_at_call 50; refine (rsign_any _ _).mono ?_; rintro e w' ⟨rfl, rfl⟩))
    refine (rconst_any _ _ _).mono ?_
    rintro e w1 ⟨rfl, hw1⟩
    obtain ⟨hc1, hf1⟩ := bcell hw1
    have hz1 : w.heap.size + 2 < w1.heap.size := by have := hw1.size; simp at this; omega
    have hy1 : w.heap.size + 1 < w1.heap.size := by omega
    have hx1 : w.heap.size < w1.heap.size := by omega
    go_wp2_with fail
    refine (rconst_any _ _ _).mono ?_
    rintro e w2 ⟨rfl, hw2⟩
    obtain ⟨hc2, hf2⟩ := bcell hw2
    have hz2 : w.heap.size + 2 < w2.heap.size := by have := hw2.size; omega
    have hy2 : w.heap.size + 1 < w2.heap.size := by omega
    have hx2 : w.heap.size < w2.heap.size := by omega
    go_wp2_with (first | (go_at_call 53; refine (rbitwise_not x y s hs _ x0 x1 y0 y1).mono ?_; rintro e w' ⟨rfl, rfl⟩))
    (try simp only [Exit.inBlock, Exit.then]); refine bodyPost_ret (by (simp [results, Try.results35, go_sem, hc1, hf1, hz1, hc2, hf2, hz2]; try rfl)) rfl ?_
    refine ⟨ret_num ?_ ?_ (v_int ?_), (by repeat' (first | with_reducible assumption | with_reducible exact Below.refl _ _ | with_reducible refine Below.setCell ?_ ?_ _ | with_reducible refine Below.alloc ?_ ?_ _ | with_reducible refine Below.drew ?_ | with_reducible refine below_dn ?_ _ | refine below_two ?_ (by assumption) | omega | (simp; omega) | (simp; done)))⟩ <;> simp [kFold, ho, hx, hy]
set_option maxHeartbeats 2000000 in
set_option maxRecDepth 100000 in
theorem rfold_quo (xn yn : Bool) (x y : Int) (s : ByteArray) (hs : s.toList = [47]) (w : World) (x0 : 0 ≤ x) (x1 : x ≤ 18446744073709551615) (y0 : 0 ≤ y) (y1 : y ≤ 18446744073709551615) :
    Calls Try.prog 35 #[.string s, .agg #[.bool xn, .int .u64 x], .agg #[.bool yn, .int .u64 y]] w fun e w' => e = .returned (.tuple #[.agg #[.bool (kFold (opCode s) xn x yn y).1, .int .u64 (kFold (opCode s) xn x yn y).2.1], .int .i64 (kFold (opCode s) xn x yn y).2.2]) ∧ Below w.heap.size w w' := by
  have ho : opCode s = 4 := by simp [opCode, hs]
  cases hx : sound xn x
  · go_enter Try.func35, Try.ntmps35
    go_wp2_with (first | (go_at_call 50; refine (rsign_any _ _).mono ?_; rintro e w' ⟨rfl, rfl⟩))
    refine (rconst_any _ _ _).mono ?_
    rintro e w1 ⟨rfl, hw1⟩
    obtain ⟨hc1, hf1⟩ := bcell hw1
    have hz1 : w.heap.size + 2 < w1.heap.size := by have := hw1.size; simp at this; omega
    have hy1 : w.heap.size + 1 < w1.heap.size := by omega
    have hx1 : w.heap.size < w1.heap.size := by omega
    go_wp2
    (try simp only [Exit.inBlock, Exit.then]); refine bodyPost_ret (by (simp [results, Try.results35, go_sem, hc1, hf1, hz1]; try rfl)) rfl ?_
    refine ⟨ret_num ?_ ?_ (v_int ?_), (by repeat' (first | with_reducible assumption | with_reducible exact Below.refl _ _ | with_reducible refine Below.setCell ?_ ?_ _ | with_reducible refine Below.alloc ?_ ?_ _ | with_reducible refine Below.drew ?_ | with_reducible refine below_dn ?_ _ | refine below_two ?_ (by assumption) | omega | (simp; omega) | (simp; done)))⟩ <;> simp [kFold, ho, hx]
  cases hy : sound yn y
  · go_enter Try.func35, Try.ntmps35
    go_wp2_with (first | (go_at_call 50; refine (rsign_any _ _).mono ?_; rintro e w' ⟨rfl, rfl⟩))
    refine (rconst_any _ _ _).mono ?_
    rintro e w1 ⟨rfl, hw1⟩
    obtain ⟨hc1, hf1⟩ := bcell hw1
    have hz1 : w.heap.size + 2 < w1.heap.size := by have := hw1.size; simp at this; omega
    have hy1 : w.heap.size + 1 < w1.heap.size := by omega
    have hx1 : w.heap.size < w1.heap.size := by omega
    go_wp2_with fail
    refine (rconst_any _ _ _).mono ?_
    rintro e w2 ⟨rfl, hw2⟩
    obtain ⟨hc2, hf2⟩ := bcell hw2
    have hz2 : w.heap.size + 2 < w2.heap.size := by have := hw2.size; omega
    have hy2 : w.heap.size + 1 < w2.heap.size := by omega
    have hx2 : w.heap.size < w2.heap.size := by omega
    go_wp2
    (try simp only [Exit.inBlock, Exit.then]); refine bodyPost_ret (by (simp [results, Try.results35, go_sem, hc1, hf1, hz1, hc2, hf2, hz2]; try rfl)) rfl ?_
    refine ⟨ret_num ?_ ?_ (v_int ?_), (by repeat' (first | with_reducible assumption | with_reducible exact Below.refl _ _ | with_reducible refine Below.setCell ?_ ?_ _ | with_reducible refine Below.alloc ?_ ?_ _ | with_reducible refine Below.drew ?_ | with_reducible refine below_dn ?_ _ | refine below_two ?_ (by assumption) | omega | (simp; omega) | (simp; done)))⟩ <;> simp [kFold, ho, hx, hy]
  by_cases hz : y = 0
  · subst hz
    go_enter Try.func35, Try.ntmps35
    go_wp2_with (first | (go_at_call 50; refine (rsign_any _ _).mono ?_; rintro e w' ⟨rfl, rfl⟩))
    refine (rconst_any _ _ _).mono ?_
    rintro e w1 ⟨rfl, hw1⟩
    obtain ⟨hc1, hf1⟩ := bcell hw1
    have hz1 : w.heap.size + 2 < w1.heap.size := by have := hw1.size; simp at this; omega
    have hy1 : w.heap.size + 1 < w1.heap.size := by omega
    have hx1 : w.heap.size < w1.heap.size := by omega
    go_wp2_with fail
    refine (rconst_any _ _ _).mono ?_
    rintro e w2 ⟨rfl, hw2⟩
    obtain ⟨hc2, hf2⟩ := bcell hw2
    have hz2 : w.heap.size + 2 < w2.heap.size := by have := hw2.size; omega
    have hy2 : w.heap.size + 1 < w2.heap.size := by omega
    have hx2 : w.heap.size < w2.heap.size := by omega
    go_wp2
    (try simp only [Exit.inBlock, Exit.then]); refine bodyPost_ret (by (simp [results, Try.results35, go_sem, hc1, hf1, hz1, hc2, hf2, hz2]; try rfl)) rfl ?_
    refine ⟨ret_num ?_ ?_ (v_int ?_), (by repeat' (first | with_reducible assumption | with_reducible exact Below.refl _ _ | with_reducible refine Below.setCell ?_ ?_ _ | with_reducible refine Below.alloc ?_ ?_ _ | with_reducible refine Below.drew ?_ | with_reducible refine below_dn ?_ _ | refine below_two ?_ (by assumption) | omega | (simp; omega) | (simp; done)))⟩ <;> simp [kFold, ho, hx, hy]
  have hb : 1 ≤ y := by omega
  have hq0 : 0 ≤ x / y := Int.ediv_nonneg x0 y0
  have hq1 : x / y ≤ x := Int.ediv_le_self _ x0
  have hk : kMade (!xn == yn) (x / y) false = kres ((kval xn x).tdiv (kval yn y)) := by
    have h := quo_made xn yn x y x0 x1 y0
    rwa [show (xn != yn) = (!xn == yn) by cases xn <;> cases yn <;> rfl] at h
  go_enter Try.func35, Try.ntmps35
  go_wp2_with (first | (go_at_call 50; refine (rsign_any _ _).mono ?_; rintro e w' ⟨rfl, rfl⟩))
  refine (rconst_any _ _ _).mono ?_
  rintro e w1 ⟨rfl, hw1⟩
  obtain ⟨hc1, hf1⟩ := bcell hw1
  have hz1 : w.heap.size + 2 < w1.heap.size := by have := hw1.size; simp at this; omega
  have hy1 : w.heap.size + 1 < w1.heap.size := by omega
  have hx1 : w.heap.size < w1.heap.size := by omega
  go_wp2_with fail
  refine (rconst_any _ _ _).mono ?_
  rintro e w2 ⟨rfl, hw2⟩
  obtain ⟨hc2, hf2⟩ := bcell hw2
  have hz2 : w.heap.size + 2 < w2.heap.size := by have := hw2.size; omega
  have hy2 : w.heap.size + 1 < w2.heap.size := by omega
  have hx2 : w.heap.size < w2.heap.size := by omega
  go_wp2_with fail
  refine (told_any _ _ _ _).mono ?_
  rintro e w3 ⟨rfl, hw3⟩
  obtain ⟨hc3, hf3⟩ := bcell hw3
  have hz3 : w.heap.size + 2 < w3.heap.size := by have := hw3.size; omega
  go_wp2
  (try simp only [Exit.inBlock, Exit.then]); refine bodyPost_ret (by (simp [results, Try.results35, go_sem, hc1, hf1, hz1, hc2, hf2, hz2, hc3, hf3, hz3]; try rfl)) rfl ?_
  refine ⟨ret_num ?_ ?_ (v_int ?_), (by repeat' (first | with_reducible assumption | with_reducible exact Below.refl _ _ | with_reducible refine Below.setCell ?_ ?_ _ | with_reducible refine Below.alloc ?_ ?_ _ | with_reducible refine Below.drew ?_ | with_reducible refine below_dn ?_ _ | refine below_two ?_ (by assumption) | omega | (simp; omega) | (simp; done)))⟩ <;> simp [kFold, ho, hx, hy, hz]
set_option maxHeartbeats 2000000 in
set_option maxRecDepth 100000 in
theorem rfold_rem (xn yn : Bool) (x y : Int) (s : ByteArray) (hs : s.toList = [37]) (w : World) (x0 : 0 ≤ x) (x1 : x ≤ 18446744073709551615) (y0 : 0 ≤ y) (y1 : y ≤ 18446744073709551615) :
    Calls Try.prog 35 #[.string s, .agg #[.bool xn, .int .u64 x], .agg #[.bool yn, .int .u64 y]] w fun e w' => e = .returned (.tuple #[.agg #[.bool (kFold (opCode s) xn x yn y).1, .int .u64 (kFold (opCode s) xn x yn y).2.1], .int .i64 (kFold (opCode s) xn x yn y).2.2]) ∧ Below w.heap.size w w' := by
  have ho : opCode s = 5 := by simp [opCode, hs]
  cases hx : sound xn x
  · go_enter Try.func35, Try.ntmps35
    go_wp2_with (first | (go_at_call 50; refine (rsign_any _ _).mono ?_; rintro e w' ⟨rfl, rfl⟩))
    refine (rconst_any _ _ _).mono ?_
    rintro e w1 ⟨rfl, hw1⟩
    obtain ⟨hc1, hf1⟩ := bcell hw1
    have hz1 : w.heap.size + 2 < w1.heap.size := by have := hw1.size; simp at this; omega
    have hy1 : w.heap.size + 1 < w1.heap.size := by omega
    have hx1 : w.heap.size < w1.heap.size := by omega
    go_wp2
    (try simp only [Exit.inBlock, Exit.then]); refine bodyPost_ret (by (simp [results, Try.results35, go_sem, hc1, hf1, hz1]; try rfl)) rfl ?_
    refine ⟨ret_num ?_ ?_ (v_int ?_), (by repeat' (first | with_reducible assumption | with_reducible exact Below.refl _ _ | with_reducible refine Below.setCell ?_ ?_ _ | with_reducible refine Below.alloc ?_ ?_ _ | with_reducible refine Below.drew ?_ | with_reducible refine below_dn ?_ _ | refine below_two ?_ (by assumption) | omega | (simp; omega) | (simp; done)))⟩ <;> simp [kFold, ho, hx]
  cases hy : sound yn y
  · go_enter Try.func35, Try.ntmps35
    go_wp2_with (first | (go_at_call 50; refine (rsign_any _ _).mono ?_; rintro e w' ⟨rfl, rfl⟩))
    refine (rconst_any _ _ _).mono ?_
    rintro e w1 ⟨rfl, hw1⟩
    obtain ⟨hc1, hf1⟩ := bcell hw1
    have hz1 : w.heap.size + 2 < w1.heap.size := by have := hw1.size; simp at this; omega
    have hy1 : w.heap.size + 1 < w1.heap.size := by omega
    have hx1 : w.heap.size < w1.heap.size := by omega
    go_wp2_with fail
    refine (rconst_any _ _ _).mono ?_
    rintro e w2 ⟨rfl, hw2⟩
    obtain ⟨hc2, hf2⟩ := bcell hw2
    have hz2 : w.heap.size + 2 < w2.heap.size := by have := hw2.size; omega
    have hy2 : w.heap.size + 1 < w2.heap.size := by omega
    have hx2 : w.heap.size < w2.heap.size := by omega
    go_wp2
    (try simp only [Exit.inBlock, Exit.then]); refine bodyPost_ret (by (simp [results, Try.results35, go_sem, hc1, hf1, hz1, hc2, hf2, hz2]; try rfl)) rfl ?_
    refine ⟨ret_num ?_ ?_ (v_int ?_), (by repeat' (first | with_reducible assumption | with_reducible exact Below.refl _ _ | with_reducible refine Below.setCell ?_ ?_ _ | with_reducible refine Below.alloc ?_ ?_ _ | with_reducible refine Below.drew ?_ | with_reducible refine below_dn ?_ _ | refine below_two ?_ (by assumption) | omega | (simp; omega) | (simp; done)))⟩ <;> simp [kFold, ho, hx, hy]
  by_cases hz : y = 0
  · subst hz
    go_enter Try.func35, Try.ntmps35
    go_wp2_with (first | (go_at_call 50; refine (rsign_any _ _).mono ?_; rintro e w' ⟨rfl, rfl⟩))
    refine (rconst_any _ _ _).mono ?_
    rintro e w1 ⟨rfl, hw1⟩
    obtain ⟨hc1, hf1⟩ := bcell hw1
    have hz1 : w.heap.size + 2 < w1.heap.size := by have := hw1.size; simp at this; omega
    have hy1 : w.heap.size + 1 < w1.heap.size := by omega
    have hx1 : w.heap.size < w1.heap.size := by omega
    go_wp2_with fail
    refine (rconst_any _ _ _).mono ?_
    rintro e w2 ⟨rfl, hw2⟩
    obtain ⟨hc2, hf2⟩ := bcell hw2
    have hz2 : w.heap.size + 2 < w2.heap.size := by have := hw2.size; omega
    have hy2 : w.heap.size + 1 < w2.heap.size := by omega
    have hx2 : w.heap.size < w2.heap.size := by omega
    go_wp2
    (try simp only [Exit.inBlock, Exit.then]); refine bodyPost_ret (by (simp [results, Try.results35, go_sem, hc1, hf1, hz1, hc2, hf2, hz2]; try rfl)) rfl ?_
    refine ⟨ret_num ?_ ?_ (v_int ?_), (by repeat' (first | with_reducible assumption | with_reducible exact Below.refl _ _ | with_reducible refine Below.setCell ?_ ?_ _ | with_reducible refine Below.alloc ?_ ?_ _ | with_reducible refine Below.drew ?_ | with_reducible refine below_dn ?_ _ | refine below_two ?_ (by assumption) | omega | (simp; omega) | (simp; done)))⟩ <;> simp [kFold, ho, hx, hy]
  have hb : 1 ≤ y := by omega
  have hq0 : 0 ≤ x / y := Int.ediv_nonneg x0 y0
  have hq1 : x / y ≤ x := Int.ediv_le_self _ x0
  have hr := rem_ref x y x0 x1 (by omega)
  have hk : kMade xn (x % y) false = kres ((kval xn x).tmod (kval yn y)) := rem_made xn yn x y x0 x1 (by omega)
  go_enter Try.func35, Try.ntmps35
  go_wp2_with (first | (go_at_call 50; refine (rsign_any _ _).mono ?_; rintro e w' ⟨rfl, rfl⟩))
  refine (rconst_any _ _ _).mono ?_
  rintro e w1 ⟨rfl, hw1⟩
  obtain ⟨hc1, hf1⟩ := bcell hw1
  have hz1 : w.heap.size + 2 < w1.heap.size := by have := hw1.size; simp at this; omega
  have hy1 : w.heap.size + 1 < w1.heap.size := by omega
  have hx1 : w.heap.size < w1.heap.size := by omega
  go_wp2_with fail
  refine (rconst_any _ _ _).mono ?_
  rintro e w2 ⟨rfl, hw2⟩
  obtain ⟨hc2, hf2⟩ := bcell hw2
  have hz2 : w.heap.size + 2 < w2.heap.size := by have := hw2.size; omega
  have hy2 : w.heap.size + 1 < w2.heap.size := by omega
  have hx2 : w.heap.size < w2.heap.size := by omega
  go_wp2_with fail
  refine (told_any _ _ _ _).mono ?_
  rintro e w3 ⟨rfl, hw3⟩
  obtain ⟨hc3, hf3⟩ := bcell hw3
  have hz3 : w.heap.size + 2 < w3.heap.size := by have := hw3.size; omega
  go_wp2
  (try simp only [Exit.inBlock, Exit.then]); refine bodyPost_ret (by (simp [results, Try.results35, go_sem, hc1, hf1, hz1, hc2, hf2, hz2, hc3, hf3, hz3]; try rfl)) rfl ?_
  refine ⟨ret_num ?_ ?_ (v_int ?_), (by repeat' (first | with_reducible assumption | with_reducible exact Below.refl _ _ | with_reducible refine Below.setCell ?_ ?_ _ | with_reducible refine Below.alloc ?_ ?_ _ | with_reducible refine Below.drew ?_ | with_reducible refine below_dn ?_ _ | refine below_two ?_ (by assumption) | omega | (simp; omega) | (simp; done)))⟩ <;> simp [kFold, ho, hx, hy, hz]
set_option maxHeartbeats 2000000 in
set_option maxRecDepth 100000 in
theorem rfold_shl (xn yn : Bool) (x y : Int) (s : ByteArray) (hs : s.toList = [60, 60]) (w : World) (x0 : 0 ≤ x) (x1 : x ≤ 18446744073709551615) (y0 : 0 ≤ y) (y1 : y ≤ 18446744073709551615) :
    Calls Try.prog 35 #[.string s, .agg #[.bool xn, .int .u64 x], .agg #[.bool yn, .int .u64 y]] w fun e w' => e = .returned (.tuple #[.agg #[.bool (kFold (opCode s) xn x yn y).1, .int .u64 (kFold (opCode s) xn x yn y).2.1], .int .i64 (kFold (opCode s) xn x yn y).2.2]) ∧ Below w.heap.size w w' := by
  have ho : opCode s = 10 := by simp [opCode, hs]
  cases hx : sound xn x
  · go_enter Try.func35, Try.ntmps35
    go_wp2_with (first | (go_at_call 50; refine (rsign_any _ _).mono ?_; rintro e w' ⟨rfl, rfl⟩))
    refine (rconst_any _ _ _).mono ?_
    rintro e w1 ⟨rfl, hw1⟩
    obtain ⟨hc1, hf1⟩ := bcell hw1
    have hz1 : w.heap.size + 2 < w1.heap.size := by have := hw1.size; simp at this; omega
    have hy1 : w.heap.size + 1 < w1.heap.size := by omega
    have hx1 : w.heap.size < w1.heap.size := by omega
    go_wp2
    (try simp only [Exit.inBlock, Exit.then]); refine bodyPost_ret (by (simp [results, Try.results35, go_sem, hc1, hf1, hz1]; try rfl)) rfl ?_
    refine ⟨ret_num ?_ ?_ (v_int ?_), (by repeat' (first | with_reducible assumption | with_reducible exact Below.refl _ _ | with_reducible refine Below.setCell ?_ ?_ _ | with_reducible refine Below.alloc ?_ ?_ _ | with_reducible refine Below.drew ?_ | with_reducible refine below_dn ?_ _ | refine below_two ?_ (by assumption) | omega | (simp; omega) | (simp; done)))⟩ <;> simp [kFold, ho, hx]
  cases hy : sound yn y
  · go_enter Try.func35, Try.ntmps35
    go_wp2_with (first | (go_at_call 50; refine (rsign_any _ _).mono ?_; rintro e w' ⟨rfl, rfl⟩))
    refine (rconst_any _ _ _).mono ?_
    rintro e w1 ⟨rfl, hw1⟩
    obtain ⟨hc1, hf1⟩ := bcell hw1
    have hz1 : w.heap.size + 2 < w1.heap.size := by have := hw1.size; simp at this; omega
    have hy1 : w.heap.size + 1 < w1.heap.size := by omega
    have hx1 : w.heap.size < w1.heap.size := by omega
    go_wp2_with fail
    refine (rconst_any _ _ _).mono ?_
    rintro e w2 ⟨rfl, hw2⟩
    obtain ⟨hc2, hf2⟩ := bcell hw2
    have hz2 : w.heap.size + 2 < w2.heap.size := by have := hw2.size; omega
    have hy2 : w.heap.size + 1 < w2.heap.size := by omega
    have hx2 : w.heap.size < w2.heap.size := by omega
    go_wp2
    (try simp only [Exit.inBlock, Exit.then]); refine bodyPost_ret (by (simp [results, Try.results35, go_sem, hc1, hf1, hz1, hc2, hf2, hz2]; try rfl)) rfl ?_
    refine ⟨ret_num ?_ ?_ (v_int ?_), (by repeat' (first | with_reducible assumption | with_reducible exact Below.refl _ _ | with_reducible refine Below.setCell ?_ ?_ _ | with_reducible refine Below.alloc ?_ ?_ _ | with_reducible refine Below.drew ?_ | with_reducible refine below_dn ?_ _ | refine below_two ?_ (by assumption) | omega | (simp; omega) | (simp; done)))⟩ <;> simp [kFold, ho, hx, hy]
  cases yn
  · go_enter Try.func35, Try.ntmps35
    go_wp2_with (first | (go_at_call 50; refine (rsign_any _ _).mono ?_; rintro e w' ⟨rfl, rfl⟩))
    refine (rconst_any _ _ _).mono ?_
    rintro e w1 ⟨rfl, hw1⟩
    obtain ⟨hc1, hf1⟩ := bcell hw1
    have hz1 : w.heap.size + 2 < w1.heap.size := by have := hw1.size; simp at this; omega
    have hy1 : w.heap.size + 1 < w1.heap.size := by omega
    have hx1 : w.heap.size < w1.heap.size := by omega
    go_wp2_with fail
    refine (rconst_any _ _ _).mono ?_
    rintro e w2 ⟨rfl, hw2⟩
    obtain ⟨hc2, hf2⟩ := bcell hw2
    have hz2 : w.heap.size + 2 < w2.heap.size := by have := hw2.size; omega
    have hy2 : w.heap.size + 1 < w2.heap.size := by omega
    have hx2 : w.heap.size < w2.heap.size := by omega
    go_wp2_with fail
    refine (moved_shl _ _ _ s hs _ x0 x1 y0 y1).mono ?_
    rintro e w3 ⟨rfl, hw3⟩
    obtain ⟨hc3, hf3⟩ := bcell hw3
    have hz3 : w.heap.size + 2 < w3.heap.size := by have := hw3.size; omega
    go_wp2
    (try simp only [Exit.inBlock, Exit.then]); refine bodyPost_ret (by (simp [results, Try.results35, go_sem, hc1, hf1, hz1, hc2, hf2, hz2, hc3, hf3, hz3]; try rfl)) rfl ?_
    refine ⟨ret_num ?_ ?_ (v_int ?_), (by repeat' (first | with_reducible assumption | with_reducible exact Below.refl _ _ | with_reducible refine Below.setCell ?_ ?_ _ | with_reducible refine Below.alloc ?_ ?_ _ | with_reducible refine Below.drew ?_ | with_reducible refine below_dn ?_ _ | refine below_two ?_ (by assumption) | omega | (simp; omega) | (simp; done)))⟩ <;> simp [kFold, ho, hx, hy]
  · go_enter Try.func35, Try.ntmps35
    go_wp2_with (first | (go_at_call 50; refine (rsign_any _ _).mono ?_; rintro e w' ⟨rfl, rfl⟩))
    refine (rconst_any _ _ _).mono ?_
    rintro e w1 ⟨rfl, hw1⟩
    obtain ⟨hc1, hf1⟩ := bcell hw1
    have hz1 : w.heap.size + 2 < w1.heap.size := by have := hw1.size; simp at this; omega
    have hy1 : w.heap.size + 1 < w1.heap.size := by omega
    have hx1 : w.heap.size < w1.heap.size := by omega
    go_wp2_with fail
    refine (rconst_any _ _ _).mono ?_
    rintro e w2 ⟨rfl, hw2⟩
    obtain ⟨hc2, hf2⟩ := bcell hw2
    have hz2 : w.heap.size + 2 < w2.heap.size := by have := hw2.size; omega
    have hy2 : w.heap.size + 1 < w2.heap.size := by omega
    have hx2 : w.heap.size < w2.heap.size := by omega
    go_wp2_with fail
    refine (moved_neg _ _ _ s _).mono ?_
    rintro e w3 ⟨rfl, hw3⟩
    obtain ⟨hc3, hf3⟩ := bcell hw3
    have hz3 : w.heap.size + 2 < w3.heap.size := by have := hw3.size; omega
    go_wp2
    (try simp only [Exit.inBlock, Exit.then]); refine bodyPost_ret (by (simp [results, Try.results35, go_sem, hc1, hf1, hz1, hc2, hf2, hz2, hc3, hf3, hz3]; try rfl)) rfl ?_
    refine ⟨ret_num ?_ ?_ (v_int ?_), (by repeat' (first | with_reducible assumption | with_reducible exact Below.refl _ _ | with_reducible refine Below.setCell ?_ ?_ _ | with_reducible refine Below.alloc ?_ ?_ _ | with_reducible refine Below.drew ?_ | with_reducible refine below_dn ?_ _ | refine below_two ?_ (by assumption) | omega | (simp; omega) | (simp; done)))⟩ <;> simp [kFold, ho, hx, hy]
set_option maxHeartbeats 2000000 in
set_option maxRecDepth 100000 in
theorem rfold_shr (xn yn : Bool) (x y : Int) (s : ByteArray) (hs : s.toList = [62, 62]) (w : World) (x0 : 0 ≤ x) (x1 : x ≤ 18446744073709551615) (y0 : 0 ≤ y) (y1 : y ≤ 18446744073709551615) :
    Calls Try.prog 35 #[.string s, .agg #[.bool xn, .int .u64 x], .agg #[.bool yn, .int .u64 y]] w fun e w' => e = .returned (.tuple #[.agg #[.bool (kFold (opCode s) xn x yn y).1, .int .u64 (kFold (opCode s) xn x yn y).2.1], .int .i64 (kFold (opCode s) xn x yn y).2.2]) ∧ Below w.heap.size w w' := by
  have ho : opCode s = 11 := by simp [opCode, hs]
  cases hx : sound xn x
  · go_enter Try.func35, Try.ntmps35
    go_wp2_with (first | (go_at_call 50; refine (rsign_any _ _).mono ?_; rintro e w' ⟨rfl, rfl⟩))
    refine (rconst_any _ _ _).mono ?_
    rintro e w1 ⟨rfl, hw1⟩
    obtain ⟨hc1, hf1⟩ := bcell hw1
    have hz1 : w.heap.size + 2 < w1.heap.size := by have := hw1.size; simp at this; omega
    have hy1 : w.heap.size + 1 < w1.heap.size := by omega
    have hx1 : w.heap.size < w1.heap.size := by omega
    go_wp2
    (try simp only [Exit.inBlock, Exit.then]); refine bodyPost_ret (by (simp [results, Try.results35, go_sem, hc1, hf1, hz1]; try rfl)) rfl ?_
    refine ⟨ret_num ?_ ?_ (v_int ?_), (by repeat' (first | with_reducible assumption | with_reducible exact Below.refl _ _ | with_reducible refine Below.setCell ?_ ?_ _ | with_reducible refine Below.alloc ?_ ?_ _ | with_reducible refine Below.drew ?_ | with_reducible refine below_dn ?_ _ | refine below_two ?_ (by assumption) | omega | (simp; omega) | (simp; done)))⟩ <;> simp [kFold, ho, hx]
  cases hy : sound yn y
  · go_enter Try.func35, Try.ntmps35
    go_wp2_with (first | (go_at_call 50; refine (rsign_any _ _).mono ?_; rintro e w' ⟨rfl, rfl⟩))
    refine (rconst_any _ _ _).mono ?_
    rintro e w1 ⟨rfl, hw1⟩
    obtain ⟨hc1, hf1⟩ := bcell hw1
    have hz1 : w.heap.size + 2 < w1.heap.size := by have := hw1.size; simp at this; omega
    have hy1 : w.heap.size + 1 < w1.heap.size := by omega
    have hx1 : w.heap.size < w1.heap.size := by omega
    go_wp2_with fail
    refine (rconst_any _ _ _).mono ?_
    rintro e w2 ⟨rfl, hw2⟩
    obtain ⟨hc2, hf2⟩ := bcell hw2
    have hz2 : w.heap.size + 2 < w2.heap.size := by have := hw2.size; omega
    have hy2 : w.heap.size + 1 < w2.heap.size := by omega
    have hx2 : w.heap.size < w2.heap.size := by omega
    go_wp2
    (try simp only [Exit.inBlock, Exit.then]); refine bodyPost_ret (by (simp [results, Try.results35, go_sem, hc1, hf1, hz1, hc2, hf2, hz2]; try rfl)) rfl ?_
    refine ⟨ret_num ?_ ?_ (v_int ?_), (by repeat' (first | with_reducible assumption | with_reducible exact Below.refl _ _ | with_reducible refine Below.setCell ?_ ?_ _ | with_reducible refine Below.alloc ?_ ?_ _ | with_reducible refine Below.drew ?_ | with_reducible refine below_dn ?_ _ | refine below_two ?_ (by assumption) | omega | (simp; omega) | (simp; done)))⟩ <;> simp [kFold, ho, hx, hy]
  cases yn
  · go_enter Try.func35, Try.ntmps35
    go_wp2_with (first | (go_at_call 50; refine (rsign_any _ _).mono ?_; rintro e w' ⟨rfl, rfl⟩))
    refine (rconst_any _ _ _).mono ?_
    rintro e w1 ⟨rfl, hw1⟩
    obtain ⟨hc1, hf1⟩ := bcell hw1
    have hz1 : w.heap.size + 2 < w1.heap.size := by have := hw1.size; simp at this; omega
    have hy1 : w.heap.size + 1 < w1.heap.size := by omega
    have hx1 : w.heap.size < w1.heap.size := by omega
    go_wp2_with fail
    refine (rconst_any _ _ _).mono ?_
    rintro e w2 ⟨rfl, hw2⟩
    obtain ⟨hc2, hf2⟩ := bcell hw2
    have hz2 : w.heap.size + 2 < w2.heap.size := by have := hw2.size; omega
    have hy2 : w.heap.size + 1 < w2.heap.size := by omega
    have hx2 : w.heap.size < w2.heap.size := by omega
    go_wp2_with fail
    refine (moved_shr _ _ _ s hs _ x0 x1 y0 y1).mono ?_
    rintro e w3 ⟨rfl, hw3⟩
    obtain ⟨hc3, hf3⟩ := bcell hw3
    have hz3 : w.heap.size + 2 < w3.heap.size := by have := hw3.size; omega
    go_wp2
    (try simp only [Exit.inBlock, Exit.then]); refine bodyPost_ret (by (simp [results, Try.results35, go_sem, hc1, hf1, hz1, hc2, hf2, hz2, hc3, hf3, hz3]; try rfl)) rfl ?_
    refine ⟨ret_num ?_ ?_ (v_int ?_), (by repeat' (first | with_reducible assumption | with_reducible exact Below.refl _ _ | with_reducible refine Below.setCell ?_ ?_ _ | with_reducible refine Below.alloc ?_ ?_ _ | with_reducible refine Below.drew ?_ | with_reducible refine below_dn ?_ _ | refine below_two ?_ (by assumption) | omega | (simp; omega) | (simp; done)))⟩ <;> simp [kFold, ho, hx, hy]
  · go_enter Try.func35, Try.ntmps35
    go_wp2_with (first | (go_at_call 50; refine (rsign_any _ _).mono ?_; rintro e w' ⟨rfl, rfl⟩))
    refine (rconst_any _ _ _).mono ?_
    rintro e w1 ⟨rfl, hw1⟩
    obtain ⟨hc1, hf1⟩ := bcell hw1
    have hz1 : w.heap.size + 2 < w1.heap.size := by have := hw1.size; simp at this; omega
    have hy1 : w.heap.size + 1 < w1.heap.size := by omega
    have hx1 : w.heap.size < w1.heap.size := by omega
    go_wp2_with fail
    refine (rconst_any _ _ _).mono ?_
    rintro e w2 ⟨rfl, hw2⟩
    obtain ⟨hc2, hf2⟩ := bcell hw2
    have hz2 : w.heap.size + 2 < w2.heap.size := by have := hw2.size; omega
    have hy2 : w.heap.size + 1 < w2.heap.size := by omega
    have hx2 : w.heap.size < w2.heap.size := by omega
    go_wp2_with fail
    refine (moved_neg _ _ _ s _).mono ?_
    rintro e w3 ⟨rfl, hw3⟩
    obtain ⟨hc3, hf3⟩ := bcell hw3
    have hz3 : w.heap.size + 2 < w3.heap.size := by have := hw3.size; omega
    go_wp2
    (try simp only [Exit.inBlock, Exit.then]); refine bodyPost_ret (by (simp [results, Try.results35, go_sem, hc1, hf1, hz1, hc2, hf2, hz2, hc3, hf3, hz3]; try rfl)) rfl ?_
    refine ⟨ret_num ?_ ?_ (v_int ?_), (by repeat' (first | with_reducible assumption | with_reducible exact Below.refl _ _ | with_reducible refine Below.setCell ?_ ?_ _ | with_reducible refine Below.alloc ?_ ?_ _ | with_reducible refine Below.drew ?_ | with_reducible refine below_dn ?_ _ | refine below_two ?_ (by assumption) | omega | (simp; omega) | (simp; done)))⟩ <;> simp [kFold, ho, hx, hy]
theorem rfold_any (xn yn : Bool) (x y : Int) (s : ByteArray) (w : World) (x0 : 0 ≤ x) (x1 : x ≤ 18446744073709551615) (y0 : 0 ≤ y) (y1 : y ≤ 18446744073709551615) :
    Calls Try.prog 35 #[.string s, .agg #[.bool xn, .int .u64 x], .agg #[.bool yn, .int .u64 y]] w fun e w' => e = .returned (.tuple #[.agg #[.bool (kFold (opCode s) xn x yn y).1, .int .u64 (kFold (opCode s) xn x yn y).2.1], .int .i64 (kFold (opCode s) xn x yn y).2.2]) ∧ Below w.heap.size w w' := by
  rcases opCode_cases s with hs | hs | hs | hs | hs | hs | hs | hs | hs | hs | hs | ⟨hs1, hs2, hs3, hs4, hs5, hs6, hs7, hs8, hs9, hs10, hs11⟩
  · exact rfold_add xn yn x y s hs w x0 x1 y0 y1
  · exact rfold_sub xn yn x y s hs w x0 x1 y0 y1
  · exact rfold_mul xn yn x y s hs w x0 x1 y0 y1
  · exact rfold_and xn yn x y s hs w x0 x1 y0 y1
  · exact rfold_or xn yn x y s hs w x0 x1 y0 y1
  · exact rfold_xor xn yn x y s hs w x0 x1 y0 y1
  · exact rfold_not xn yn x y s hs w x0 x1 y0 y1
  · exact rfold_quo xn yn x y s hs w x0 x1 y0 y1
  · exact rfold_rem xn yn x y s hs w x0 x1 y0 y1
  · exact rfold_shl xn yn x y s hs w x0 x1 y0 y1
  · exact rfold_shr xn yn x y s hs w x0 x1 y0 y1
  · have ho : opCode s = 0 := by
      simp only [beq_eq_false_iff_ne] at hs1 hs2 hs3 hs4 hs5 hs6 hs7 hs8 hs9 hs10 hs11
      simp [opCode, *]
    have hn1 : (s.toList != [60, 60]) = true := by simpa using hs10
    have hn2 : (s.toList != [62, 62]) = true := by simpa using hs11
    clear hs1 hs2 hs3 hs4 hs5 hs6 hs7 hs8 hs9
    go_enter Try.func35, Try.ntmps35
    go_wp2_with (first | (go_at_call 50; refine (rsign_any _ _).mono ?_; rintro e w' ⟨rfl, rfl⟩))
    go_returns
    refine ⟨ret_num ?_ ?_ (v_int ?_), (by repeat' (first | with_reducible assumption | with_reducible exact Below.refl _ _ | with_reducible refine Below.setCell ?_ ?_ _ | with_reducible refine Below.alloc ?_ ?_ _ | with_reducible refine Below.drew ?_ | with_reducible refine below_dn ?_ _ | refine below_two ?_ (by assumption) | omega | (simp; omega) | (simp; done)))⟩ <;> simp [kFold, ho]
end Go.Proofs.Ytgjfdclmoeellaa
