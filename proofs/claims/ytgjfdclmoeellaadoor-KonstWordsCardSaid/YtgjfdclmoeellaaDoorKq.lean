/- The walk of the law KonstWords: it returns true for every input within the range of its types, where the library's table of powers of ten holds what it is laid with. -/
import Derived.Test.YtgjfdclmoeellaaDoorKp
import Derived.Test.YtgjfdclmoeellaaDoorH
namespace Go.Proofs.YtgjfdclmoeellaaDoor
open Go.RowKit
set_option linter.unusedSimpArgs false
set_option linter.unusedVariables false

set_option maxRecDepth 100000 in
set_option maxHeartbeats 1000000 in
theorem kwords_none_sound (k : Int) (xn : Bool) (x n : Int) (h1 : -9223372036854775808 ≤ k) (h2 : k ≤ 9223372036854775807) (x0 : 0 ≤ x) (x1 : x ≤ 18446744073709551615) (n0 : 0 ≤ n) (n1 : n ≤ 18446744073709551615) (w : World) (htab : Lib.TabIs Tryd.prog w "internal/strconv.uint64pow10" .u64 Lib.pow10Tab)
    (hk : isW k = false) (hs : sound xn x = true) :
    Calls Tryd.prog 4 #[.int .i64 k, .agg #[.bool xn, .int .u64 x], .int .u64 n] w fun e w' => e = .returned (.bool true) ∧ Below w.heap.size w w' := by
  have fe : kFitErr k xn x = 2 := by simp [kFitErr, hk, hs]
  have c1 := fun w => kfits_any k x xn w h1 h2 x0 x1
  rw [fe] at c1
  rw [show resW 2 (wordOf xn x) = 0 by simp [resW]] at c1
  have c2 := fun w => kof_any k n w h1 h2 n0 n1
  have ce : checkW k [n] = 2 := by simp [checkW, hk]
  rw [ce] at c2
  rw [show (decide ((2 : Int) = 0) && ofNeg k n) = false by simp, show resW 2 (ofN k n) = 0 by simp [resW]] at c2
  have c3 := fun w => ktext_any xn x w x0 x1
  rw [hs] at c3
  obtain ⟨u, rfl⟩ : ∃ u : Nat, x = u := ⟨x.toNat, by omega⟩
  have hu1 : u < 18446744073709551616 := by omega
  rw [show txtK xn u = digsK xn u by simp [txtK, hs]] at c3
  have c5 := fun w => rconst_any xn (u : Int) w
  rw [hs] at c5
  have c7 := fun w => rwhole_any k w
  rw [hk] at c7
  have C1 := Lib.hid c1
  have C2 := Lib.hid c2
  have C3 := Lib.hid c3
  have C5 := Lib.hid c5
  have C7 := Lib.hid c7
  clear c1 c2 c3 c5 c7 fe hs hk ce
  go_enter Tryd.func4, Tryd.ntmps4
  go_wp2_with fail
  refine (C1.out _).mono ?_
  rintro e w' ⟨rfl, rfl⟩
  go_wp2_with fail
  refine (C2.out _).mono ?_
  rintro e w' ⟨rfl, rfl⟩
  go_wp2_with fail
  refine (C3.out _ (Lib.tabIs_alloc htab _)).mono ?_
  rintro e w1 ⟨rfl, hw1⟩
  have kx0 : w1.cell? ⟨w.heap.size, 0, none⟩ = some (.bool xn) := by rw [(bcell hw1).1 _ _ (by simp)]; simp [go_sem]
  have kx1 : w1.cell? ⟨w.heap.size, 1, none⟩ = some (.int .u64 (u : Int)) := by rw [(bcell hw1).1 _ _ (by simp)]; simp [go_sem]
  have hz1 : w.heap.size < w1.heap.size := by have := hw1.size; simp at this; omega
  have hb1 : Below w.heap.size w w1 := below_two ((Below.refl _ _).alloc (Nat.le_refl _) _) hw1
  clear hw1 htab C1 C2 C3
  go_wp2_with fail
  refine (answers07 _).mono ?_
  rintro e w' ⟨rfl, rfl⟩
  go_wp2_with fail
  refine (C5.out _).mono ?_
  rintro e w2 ⟨rfl, hw2⟩
  have ky0 : w2.cell? ⟨w.heap.size, 0, none⟩ = some (.bool xn) := by rw [(bcell hw2).1 _ _ hz1, kx0]
  have ky1 : w2.cell? ⟨w.heap.size, 1, none⟩ = some (.int .u64 (u : Int)) := by rw [(bcell hw2).1 _ _ hz1, kx1]
  have hz2 : w.heap.size < w2.heap.size := by have := hw2.size; omega
  have hb2 : Below w.heap.size w w2 := below_two hb1 hw2
  clear hw2 kx0 kx1 hz1 hb1
  go_wp2_with fail
  refine (rdigits_any xn u hu1 _).mono ?_
  rintro e w3 ⟨rfl, hw3⟩
  have kz0 : w3.cell? ⟨w.heap.size, 0, none⟩ = some (.bool xn) := by rw [(bcell hw3).1 _ _ hz2, ky0]
  have kz1 : w3.cell? ⟨w.heap.size, 1, none⟩ = some (.int .u64 (u : Int)) := by rw [(bcell hw3).1 _ _ hz2, ky1]
  have hz3 : w.heap.size < w3.heap.size := by have := hw3.size; omega
  have hb3 : Below w.heap.size w w3 := below_two hb2 hw3
  clear hw3 ky0 ky1 hz2 hb2
  go_wp2_with fail
  refine (C7.out _).mono ?_
  rintro e w' ⟨rfl, rfl⟩
  have hB := hb3.alloc hb3.size (.cells #[.bool false, .int .u64 0] 32)
  clear hb3
  go_wp2
  go_ret
  exact ⟨rfl, hB⟩

set_option maxRecDepth 100000 in
set_option maxHeartbeats 1000000 in
theorem kwords_none_not (k : Int) (xn : Bool) (x n : Int) (h1 : -9223372036854775808 ≤ k) (h2 : k ≤ 9223372036854775807) (x0 : 0 ≤ x) (x1 : x ≤ 18446744073709551615) (n0 : 0 ≤ n) (n1 : n ≤ 18446744073709551615) (w : World) (htab : Lib.TabIs Tryd.prog w "internal/strconv.uint64pow10" .u64 Lib.pow10Tab)
    (hk : isW k = false) (hs : sound xn x = false) :
    Calls Tryd.prog 4 #[.int .i64 k, .agg #[.bool xn, .int .u64 x], .int .u64 n] w fun e w' => e = .returned (.bool true) ∧ Below w.heap.size w w' := by
  have fe : kFitErr k xn x = 2 := by simp [kFitErr, hk, hs]
  have c1 := fun w => kfits_any k x xn w h1 h2 x0 x1
  rw [fe] at c1
  rw [show resW 2 (wordOf xn x) = 0 by simp [resW]] at c1
  have c2 := fun w => kof_any k n w h1 h2 n0 n1
  have ce : checkW k [n] = 2 := by simp [checkW, hk]
  rw [ce] at c2
  rw [show (decide ((2 : Int) = 0) && ofNeg k n) = false by simp, show resW 2 (ofN k n) = 0 by simp [resW]] at c2
  have c3 := fun w => ktext_any xn x w x0 x1
  rw [hs] at c3
  rw [show txtK xn x = [] by simp [txtK, hs]] at c3
  have c5 := fun w => rconst_any xn x w
  rw [hs] at c5
  have c7 := fun w => rwhole_any k w
  rw [hk] at c7
  have C1 := Lib.hid c1
  have C2 := Lib.hid c2
  have C3 := Lib.hid c3
  have C5 := Lib.hid c5
  have C7 := Lib.hid c7
  clear c1 c2 c3 c5 c7 fe hs hk ce
  go_enter Tryd.func4, Tryd.ntmps4
  go_wp2_with fail
  refine (C1.out _).mono ?_
  rintro e w' ⟨rfl, rfl⟩
  go_wp2_with fail
  refine (C2.out _).mono ?_
  rintro e w' ⟨rfl, rfl⟩
  go_wp2_with fail
  refine (C3.out _ (Lib.tabIs_alloc htab _)).mono ?_
  rintro e w1 ⟨rfl, hw1⟩
  have kx0 : w1.cell? ⟨w.heap.size, 0, none⟩ = some (.bool xn) := by rw [(bcell hw1).1 _ _ (by simp)]; simp [go_sem]
  have kx1 : w1.cell? ⟨w.heap.size, 1, none⟩ = some (.int .u64 x) := by rw [(bcell hw1).1 _ _ (by simp)]; simp [go_sem]
  have hz1 : w.heap.size < w1.heap.size := by have := hw1.size; simp at this; omega
  have hb1 : Below w.heap.size w w1 := below_two ((Below.refl _ _).alloc (Nat.le_refl _) _) hw1
  clear hw1 htab C1 C2 C3
  go_wp2_with fail
  refine (answers07 _).mono ?_
  rintro e w' ⟨rfl, rfl⟩
  go_wp2_with fail
  refine (C5.out _).mono ?_
  rintro e w2 ⟨rfl, hw2⟩
  have ky0 : w2.cell? ⟨w.heap.size, 0, none⟩ = some (.bool xn) := by rw [(bcell hw2).1 _ _ hz1, kx0]
  have ky1 : w2.cell? ⟨w.heap.size, 1, none⟩ = some (.int .u64 x) := by rw [(bcell hw2).1 _ _ hz1, kx1]
  have hz2 : w.heap.size < w2.heap.size := by have := hw2.size; omega
  have hb2 : Below w.heap.size w w2 := below_two hb1 hw2
  clear hw2 kx0 kx1 hz1 hb1
  go_wp2_with fail
  refine (C7.out _).mono ?_
  rintro e w' ⟨rfl, rfl⟩
  have hB := hb2.alloc hb2.size (.cells #[.bool false, .int .u64 0] 32)
  clear hb2
  go_wp2
  go_ret
  exact ⟨rfl, hB⟩

set_option maxRecDepth 100000 in
set_option maxHeartbeats 1000000 in
theorem kwords_is_in (k : Int) (xn : Bool) (x n : Int) (h1 : -9223372036854775808 ≤ k) (h2 : k ≤ 9223372036854775807) (x0 : 0 ≤ x) (x1 : x ≤ 18446744073709551615) (n0 : 0 ≤ n) (n1 : n ≤ 18446744073709551615) (w : World) (htab : Lib.TabIs Tryd.prog w "internal/strconv.uint64pow10" .u64 Lib.pow10Tab)
    (hk : isW k = true) (hs : sound xn x = true) (hf : checkW k [n] = 0) (hi : fitsK k xn x = true) :
    Calls Tryd.prog 4 #[.int .i64 k, .agg #[.bool xn, .int .u64 x], .int .u64 n] w fun e w' => e = .returned (.bool true) ∧ Below w.heap.size w w' := by
  have fe : kFitErr k xn x = 0 := by simp [kFitErr, hk, hs, hi]
  have c1 := fun w => kfits_any k x xn w h1 h2 x0 x1
  rw [fe] at c1
  rw [show resW 0 (wordOf xn x) = wordOf xn x by simp [resW]] at c1
  have c2 := fun w => kof_any k n w h1 h2 n0 n1
  rw [hf] at c2
  rw [show (decide ((0 : Int) = 0) && ofNeg k n) = ofNeg k n by simp, show resW 0 (ofN k n) = ofN k n by simp [resW]] at c2
  have c3 := fun w => ktext_any xn x w x0 x1
  rw [hs] at c3
  obtain ⟨u, rfl⟩ : ∃ u : Nat, x = u := ⟨x.toNat, by omega⟩
  have hu1 : u < 18446744073709551616 := by omega
  rw [show txtK xn u = digsK xn u by simp [txtK, hs]] at c3
  have c5 := fun w => rconst_any xn (u : Int) w
  rw [hs] at c5
  have c8 := fun b o c w h => rbad1 k n b o c w h1 h2 n0 n1 h
  rw [rBad1_eq k n n0 n1] at c8
  rw [hf] at c8
  have c9 := fun w => rof_any k n w h1 h2
  have c10 := fun w => rin_any k (u : Int) xn w h1 h2 hk x0 x1
  rw [rin_fits k (u : Int) xn hk hs x0 x1, hi] at c10
  have c11 := fun w => rword_any xn (u : Int) w x0 x1
  have c7 := fun w => rwhole_any k w
  rw [hk] at c7
  have C1 := Lib.hid c1
  have C2 := Lib.hid c2
  have C3 := Lib.hid c3
  have C5 := Lib.hid c5
  have C7 := Lib.hid c7
  have C8 := Lib.hid c8
  have C9 := Lib.hid c9
  have C10 := Lib.hid c10
  have C11 := Lib.hid c11
  clear c1 c2 c3 c5 c7 c8 c9 c10 c11 fe hs hk hf hi
  generalize ofNeg k n = zn at *
  generalize ofN k n = zm at *
  generalize wordOf xn u = xw at *
  go_enter Tryd.func4, Tryd.ntmps4
  go_wp2_with fail
  refine (C1.out _).mono ?_
  rintro e w' ⟨rfl, rfl⟩
  go_wp2_with fail
  refine (C2.out _).mono ?_
  rintro e w' ⟨rfl, rfl⟩
  go_wp2_with fail
  refine (C3.out _ (Lib.tabIs_alloc htab _)).mono ?_
  rintro e w1 ⟨rfl, hw1⟩
  have kx0 : w1.cell? ⟨w.heap.size, 0, none⟩ = some (.bool xn) := by rw [(bcell hw1).1 _ _ (by simp)]; simp [go_sem]
  have kx1 : w1.cell? ⟨w.heap.size, 1, none⟩ = some (.int .u64 (u : Int)) := by rw [(bcell hw1).1 _ _ (by simp)]; simp [go_sem]
  have hz1 : w.heap.size < w1.heap.size := by have := hw1.size; simp at this; omega
  have hb1 : Below w.heap.size w w1 := below_two ((Below.refl _ _).alloc (Nat.le_refl _) _) hw1
  clear hw1 htab C1 C2 C3
  go_wp2_with fail
  refine (answers07 _).mono ?_
  rintro e w' ⟨rfl, rfl⟩
  go_wp2_with fail
  refine (C5.out _).mono ?_
  rintro e w2 ⟨rfl, hw2⟩
  have ky0 : w2.cell? ⟨w.heap.size, 0, none⟩ = some (.bool xn) := by rw [(bcell hw2).1 _ _ hz1, kx0]
  have ky1 : w2.cell? ⟨w.heap.size, 1, none⟩ = some (.int .u64 (u : Int)) := by rw [(bcell hw2).1 _ _ hz1, kx1]
  have hz2 : w.heap.size < w2.heap.size := by have := hw2.size; omega
  have hb2 : Below w.heap.size w w2 := below_two hb1 hw2
  clear hw2 kx0 kx1 hz1 hb1
  go_wp2_with fail
  refine (rdigits_any xn u hu1 _).mono ?_
  rintro e w3 ⟨rfl, hw3⟩
  have kz0 : w3.cell? ⟨w.heap.size, 0, none⟩ = some (.bool xn) := by rw [(bcell hw3).1 _ _ hz2, ky0]
  have kz1 : w3.cell? ⟨w.heap.size, 1, none⟩ = some (.int .u64 (u : Int)) := by rw [(bcell hw3).1 _ _ hz2, ky1]
  have hz3 : w.heap.size < w3.heap.size := by have := hw3.size; omega
  have hb3 : Below w.heap.size w w3 := below_two hb2 hw3
  clear hw3 ky0 ky1 hz2 hb2
  go_wp2_with fail
  refine (C7.out _).mono ?_
  rintro e w' ⟨rfl, rfl⟩
  have hB := hb3.alloc hb3.size (.cells #[.bool zn, .int .u64 zm] 32)
  have hC := hB.alloc hB.size (.cells #[.int .u64 n] 22)
  have hz3p : w.heap.size < w3.heap.size + 1 := by omega
  go_wp2_with fail
  refine wp_region_noPanic ?_
  refine wp_region_held_drew (S := (fun w' => w'.cell? ⟨w3.heap.size, 0, none⟩ = some (.bool zn) ∧ w'.cell? ⟨w3.heap.size, 1, none⟩ = some (.int .u64 zm) ∧ w'.cell? ⟨w.heap.size, 0, none⟩ = some (.bool xn) ∧ w'.cell? ⟨w.heap.size, 1, none⟩ = some (.int .u64 (u : Int)) ∧ Below w.heap.size w w' ∧ w3.heap.size < w'.heap.size)) (by kernel_rfl) ?_ (fun hHeld => ?_)
  · (try dsimp only); exact ⟨by simp, by simp, by simp [World.cell?_alloc_past, hz3, kz0], by simp [World.cell?_alloc_past, hz3, kz1], by first | exact hB | exact hB.drew, by simp⟩
  refine h_yes 0 92 (v := ?_) rfl rfl (by kernel_rfl) (by kernel_rfl) (by kernel_rfl) (fun _ _ _ h => h) (by kernel_rfl) (by assumption) ?_ ?_
  rotate_left 1
  · (intro w hSw; (try dsimp only at hSw); go_simp; try with_reducible rfl)
  try simp only [Act.put, List.setIfInBounds_toArray, List.set_cons_zero, List.set_cons_succ]
  refine h_yes 1 93 (v := ?_) rfl rfl (by kernel_rfl) (by kernel_rfl) (by kernel_rfl) (fun _ _ _ h => h) (by kernel_rfl) (by assumption) ?_ ?_
  rotate_left 1
  · (intro w hSw; (try dsimp only at hSw); go_simp; try with_reducible rfl)
  try simp only [Act.put, List.setIfInBounds_toArray, List.set_cons_zero, List.set_cons_succ]
  refine h_yes 2 94 (v := ?_) rfl rfl (by kernel_rfl) (by kernel_rfl) (by kernel_rfl) (fun _ _ _ h => h) (by kernel_rfl) (by assumption) ?_ ?_
  rotate_left 1
  · (intro w hSw; (try dsimp only at hSw); go_simp; try with_reducible rfl)
  try simp only [Act.put, List.setIfInBounds_toArray, List.set_cons_zero, List.set_cons_succ]
  refine h_step 3 rfl (by kernel_rfl) (by kernel_rfl) (fun K hK => ?_)
  go_simp
  refine hK.out _ _ ?_ (fun hHeld => ?_)
  · (try dsimp only); exact ⟨by simp [World.cell?_alloc_past], by simp [World.cell?_alloc_past], by simp [World.cell?_alloc_past, hz3, hz3p, kz0], by simp [World.cell?_alloc_past, hz3, hz3p, kz1], by first | exact hC.drew | exact hC, by simp; try omega⟩
  clear hK K
  try simp only [Act.put, List.setIfInBounds_toArray, List.set_cons_zero, List.set_cons_succ]
  refine h_step 4 rfl (by kernel_rfl) (by kernel_rfl) (fun K hK => ?_)
  go_simp
  refine (C8.out _ _ _ _ (by simp)).mono ?_
  rintro e w' ⟨rfl, rfl⟩
  go_wp2_with fail
  refine hK.out _ _ ?_ (fun hHeld => ?_)
  · (try dsimp only); exact hHeld
  clear hK K
  try simp only [Act.put, List.setIfInBounds_toArray, List.set_cons_zero, List.set_cons_succ]
  refine h_yes 5 97 (v := ?_) rfl rfl (by kernel_rfl) (by kernel_rfl) (by kernel_rfl) (fun _ _ _ h => h) (by kernel_rfl) (by assumption) ?_ ?_
  rotate_left 1
  · (intro w hSw; (try dsimp only at hSw); go_simp; try with_reducible rfl)
  try simp only [Act.put, List.setIfInBounds_toArray, List.set_cons_zero, List.set_cons_succ]
  refine h_yes 6 98 (v := ?_) rfl rfl (by kernel_rfl) (by kernel_rfl) (by kernel_rfl) (fun _ _ _ h => h) (by kernel_rfl) (by assumption) ?_ ?_
  rotate_left 1
  · (intro w hSw; (try dsimp only at hSw); go_simp; try with_reducible rfl)
  try simp only [Act.put, List.setIfInBounds_toArray, List.set_cons_zero, List.set_cons_succ]
  refine h_yes 7 99 (v := ?_) rfl rfl (by kernel_rfl) (by kernel_rfl) (by kernel_rfl) (fun _ _ _ h => h) (by kernel_rfl) (by assumption) ?_ ?_
  rotate_left 1
  · (intro w hSw; (try dsimp only at hSw); go_simp; try with_reducible rfl)
  try simp only [Act.put, List.setIfInBounds_toArray, List.set_cons_zero, List.set_cons_succ]
  refine h_yes 8 100 (v := ?_) rfl rfl (by kernel_rfl) (by kernel_rfl) (by kernel_rfl) (fun _ _ _ h => h) (by kernel_rfl) (by assumption) ?_ ?_
  rotate_left 1
  · (intro w hSw; (try dsimp only at hSw); go_simp; try with_reducible rfl)
  try simp only [Act.put, List.setIfInBounds_toArray, List.set_cons_zero, List.set_cons_succ]
  refine h_yes 9 101 (v := ?_) rfl rfl (by kernel_rfl) (by kernel_rfl) (by kernel_rfl) (fun _ _ _ h => h) (by kernel_rfl) (by assumption) ?_ ?_
  rotate_left 1
  · (intro w hSw; (try dsimp only at hSw); go_simp; try with_reducible rfl)
  try simp only [Act.put, List.setIfInBounds_toArray, List.set_cons_zero, List.set_cons_succ]
  refine h_no 10 102 rfl rfl (by kernel_rfl) (by kernel_rfl) (by kernel_rfl) (fun _ _ _ h => h) (by kernel_rfl) (by assumption) ?_
  try simp only [Act.put, List.setIfInBounds_toArray, List.set_cons_zero, List.set_cons_succ]
  refine h_no 11 103 rfl rfl (by kernel_rfl) (by kernel_rfl) (by kernel_rfl) (fun _ _ _ h => h) (by kernel_rfl) (by assumption) ?_
  try simp only [Act.put, List.setIfInBounds_toArray, List.set_cons_zero, List.set_cons_succ]
  refine h_no 12 104 rfl rfl (by kernel_rfl) (by kernel_rfl) (by kernel_rfl) (fun _ _ _ h => h) (by kernel_rfl) (by assumption) ?_
  try simp only [Act.put, List.setIfInBounds_toArray, List.set_cons_zero, List.set_cons_succ]
  refine h_yes 13 105 (v := ?_) rfl rfl (by kernel_rfl) (by kernel_rfl) (by kernel_rfl) (fun _ _ _ h => h) (by kernel_rfl) (by assumption) ?_ ?_
  rotate_left 1
  · (intro w hSw; (try dsimp only at hSw); go_simp; try with_reducible rfl)
  try simp only [Act.put, List.setIfInBounds_toArray, List.set_cons_zero, List.set_cons_succ]
  refine h_yes 14 106 (v := ?_) rfl rfl (by kernel_rfl) (by kernel_rfl) (by kernel_rfl) (fun _ _ _ h => h) (by kernel_rfl) (by assumption) ?_ ?_
  rotate_left 1
  · (intro w hSw; (try dsimp only at hSw); go_simp; try with_reducible rfl)
  try simp only [Act.put, List.setIfInBounds_toArray, List.set_cons_zero, List.set_cons_succ]
  refine h_yes 15 107 (v := ?_) rfl rfl (by kernel_rfl) (by kernel_rfl) (by kernel_rfl) (fun _ _ _ h => h) (by kernel_rfl) (by assumption) ?_ ?_
  rotate_left 1
  · (intro w hSw; (try dsimp only at hSw); go_simp; try with_reducible rfl)
  try simp only [Act.put, List.setIfInBounds_toArray, List.set_cons_zero, List.set_cons_succ]
  refine h_yes 16 108 (v := ?_) rfl rfl (by kernel_rfl) (by kernel_rfl) (by kernel_rfl) (fun _ _ _ h => h) (by kernel_rfl) (by assumption) ?_ ?_
  rotate_left 1
  · (intro w hSw; (try dsimp only at hSw); go_simp; try with_reducible rfl)
  try simp only [Act.put, List.setIfInBounds_toArray, List.set_cons_zero, List.set_cons_succ]
  refine h_yes 17 109 (v := ?_) rfl rfl (by kernel_rfl) (by kernel_rfl) (by kernel_rfl) (fun _ _ _ h => h) (by kernel_rfl) (by assumption) ?_ ?_
  rotate_left 1
  · (intro w hSw; (try dsimp only at hSw); go_simp; try with_reducible rfl)
  try simp only [Act.put, List.setIfInBounds_toArray, List.set_cons_zero, List.set_cons_succ]
  refine h_yes 18 110 (v := ?_) rfl rfl (by kernel_rfl) (by kernel_rfl) (by kernel_rfl) (fun _ _ _ h => h) (by kernel_rfl) (by assumption) ?_ ?_
  rotate_left 1
  · (intro w hSw; (try dsimp only at hSw); go_simp; try with_reducible rfl)
  try simp only [Act.put, List.setIfInBounds_toArray, List.set_cons_zero, List.set_cons_succ]
  refine h_yes 19 111 (v := ?_) rfl rfl (by kernel_rfl) (by kernel_rfl) (by kernel_rfl) (fun _ _ _ h => h) (by kernel_rfl) (by assumption) ?_ ?_
  rotate_left 1
  · (intro w hSw; (try dsimp only at hSw); go_simp; try with_reducible rfl)
  try simp only [Act.put, List.setIfInBounds_toArray, List.set_cons_zero, List.set_cons_succ]
  refine h_yes 20 112 (v := ?_) rfl rfl (by kernel_rfl) (by kernel_rfl) (by kernel_rfl) (fun _ _ _ h => h) (by kernel_rfl) (by assumption) ?_ ?_
  rotate_left 1
  · (intro w hSw; (try dsimp only at hSw); go_simp; try with_reducible rfl)
  try simp only [Act.put, List.setIfInBounds_toArray, List.set_cons_zero, List.set_cons_succ]
  refine h_yes 21 113 (v := ?_) rfl rfl (by kernel_rfl) (by kernel_rfl) (by kernel_rfl) (fun _ _ _ h => h) (by kernel_rfl) (by assumption) ?_ ?_
  rotate_left 1
  · (intro w hSw; (try dsimp only at hSw); go_simp; try with_reducible rfl)
  try simp only [Act.put, List.setIfInBounds_toArray, List.set_cons_zero, List.set_cons_succ]
  refine h_step 22 rfl (by kernel_rfl) (by kernel_rfl) (fun K hK => ?_)
  go_simp
  refine (C9.out _).mono ?_
  rintro e w7 ⟨rfl, hw7⟩
  obtain ⟨b0, b1, b2, b3, b4, b5⟩ := hHeld
  have e0 := (bcell hw7).1 _ 0 b5
  have e1 := (bcell hw7).1 _ 1 b5
  have e2 := (bcell hw7).1 _ 0 (Nat.lt_trans hz3 b5)
  have e3 := (bcell hw7).1 _ 1 (Nat.lt_trans hz3 b5)
  rw [b0] at e0
  rw [b1] at e1
  rw [b2] at e2
  rw [b3] at e3
  have e4 := below_two b4 hw7
  have e5 := Nat.lt_of_lt_of_le b5 hw7.size
  clear hw7 b0 b1 b2 b3 b4 b5
  go_wp2_with fail
  refine hK.out _ _ ?_ (fun hHeld => ?_)
  · (try dsimp only); exact ⟨e0, e1, e2, e3, e4, e5⟩
  clear hK K
  try simp only [Act.put, List.setIfInBounds_toArray, List.set_cons_zero, List.set_cons_succ]
  refine h_yes 23 115 (v := ?_) rfl rfl (by kernel_rfl) (by kernel_rfl) (by kernel_rfl) (fun _ _ _ h => h) (by kernel_rfl) (by assumption) ?_ ?_
  rotate_left 1
  · (intro w hSw; (try dsimp only at hSw); go_simp; try with_reducible rfl)
  try simp only [Act.put, List.setIfInBounds_toArray, List.set_cons_zero, List.set_cons_succ]
  refine h_yes 24 116 (v := ?_) rfl rfl (by kernel_rfl) (by kernel_rfl) (by kernel_rfl) (fun _ _ _ h => h) (by kernel_rfl) (by assumption) ?_ ?_
  rotate_left 1
  · (intro w hSw; (try dsimp only at hSw); go_simp; try with_reducible rfl)
  try simp only [Act.put, List.setIfInBounds_toArray, List.set_cons_zero, List.set_cons_succ]
  refine h_yes 25 117 (v := ?_) rfl rfl (by kernel_rfl) (by kernel_rfl) (by kernel_rfl) (fun _ _ _ h => h) (by kernel_rfl) (by assumption) ?_ ?_
  rotate_left 1
  · (intro w hSw; (try dsimp only at hSw); go_simp; try with_reducible rfl)
  try simp only [Act.put, List.setIfInBounds_toArray, List.set_cons_zero, List.set_cons_succ]
  refine wpAnyH_done (by kernel_rfl) ?_ _
  refine NoPanic.normal ?_
  obtain ⟨-, -, b2, b3, b4, b5⟩ := hHeld
  go_wp2_with fail
  refine (C5.out _).mono ?_
  rintro e w8 ⟨rfl, hw8⟩
  have a2 := (bcell hw8).1 _ 0 (Nat.lt_trans hz3 b5)
  have a3 := (bcell hw8).1 _ 1 (Nat.lt_trans hz3 b5)
  rw [b2] at a2
  rw [b3] at a3
  have a4 := below_two b4 hw8
  have a5 := Nat.lt_of_lt_of_le b5 hw8.size
  clear hw8 b2 b3 b4 b5
  obtain ⟨b2, b3, b4, b5⟩ := And.intro a2 (And.intro a3 (And.intro a4 a5))
  clear a2 a3 a4 a5
  go_wp2_with fail
  refine (C10.out _).mono ?_
  rintro e w9 ⟨rfl, hw9⟩
  have a2 := (bcell hw9).1 _ 0 (Nat.lt_trans hz3 b5)
  have a3 := (bcell hw9).1 _ 1 (Nat.lt_trans hz3 b5)
  rw [b2] at a2
  rw [b3] at a3
  have a4 := below_two b4 hw9
  have a5 := Nat.lt_of_lt_of_le b5 hw9.size
  clear hw9 b2 b3 b4 b5
  obtain ⟨b2, b3, b4, b5⟩ := And.intro a2 (And.intro a3 (And.intro a4 a5))
  clear a2 a3 a4 a5
  go_wp2_with fail
  refine (C11.out _).mono ?_
  rintro e w10 ⟨rfl, hw10⟩
  have a2 := (bcell hw10).1 _ 0 (Nat.lt_trans hz3 b5)
  have a3 := (bcell hw10).1 _ 1 (Nat.lt_trans hz3 b5)
  rw [b2] at a2
  rw [b3] at a3
  have a4 := below_two b4 hw10
  have a5 := Nat.lt_of_lt_of_le b5 hw10.size
  clear hw10 b2 b3 b4 b5
  obtain ⟨b2, b3, b4, b5⟩ := And.intro a2 (And.intro a3 (And.intro a4 a5))
  clear a2 a3 a4 a5
  go_wp2
  go_ret
  exact ⟨rfl, b4⟩

set_option maxRecDepth 100000 in
set_option maxHeartbeats 1000000 in
theorem kwords_is_out (k : Int) (xn : Bool) (x n : Int) (h1 : -9223372036854775808 ≤ k) (h2 : k ≤ 9223372036854775807) (x0 : 0 ≤ x) (x1 : x ≤ 18446744073709551615) (n0 : 0 ≤ n) (n1 : n ≤ 18446744073709551615) (w : World) (htab : Lib.TabIs Tryd.prog w "internal/strconv.uint64pow10" .u64 Lib.pow10Tab)
    (hk : isW k = true) (hs : sound xn x = true) (hf : checkW k [n] = 0) (hi : fitsK k xn x = false) :
    Calls Tryd.prog 4 #[.int .i64 k, .agg #[.bool xn, .int .u64 x], .int .u64 n] w fun e w' => e = .returned (.bool true) ∧ Below w.heap.size w w' := by
  have fe : kFitErr k xn x = 10 := by simp [kFitErr, hk, hs, hi]
  have c1 := fun w => kfits_any k x xn w h1 h2 x0 x1
  rw [fe] at c1
  rw [show resW 10 (wordOf xn x) = 0 by simp [resW]] at c1
  have c2 := fun w => kof_any k n w h1 h2 n0 n1
  rw [hf] at c2
  rw [show (decide ((0 : Int) = 0) && ofNeg k n) = ofNeg k n by simp, show resW 0 (ofN k n) = ofN k n by simp [resW]] at c2
  have c3 := fun w => ktext_any xn x w x0 x1
  rw [hs] at c3
  obtain ⟨u, rfl⟩ : ∃ u : Nat, x = u := ⟨x.toNat, by omega⟩
  have hu1 : u < 18446744073709551616 := by omega
  rw [show txtK xn u = digsK xn u by simp [txtK, hs]] at c3
  have c5 := fun w => rconst_any xn (u : Int) w
  rw [hs] at c5
  have c8 := fun b o c w h => rbad1 k n b o c w h1 h2 n0 n1 h
  rw [rBad1_eq k n n0 n1] at c8
  rw [hf] at c8
  have c9 := fun w => rof_any k n w h1 h2
  have c10 := fun w => rin_any k (u : Int) xn w h1 h2 hk x0 x1
  rw [rin_fits k (u : Int) xn hk hs x0 x1, hi] at c10
  have c7 := fun w => rwhole_any k w
  rw [hk] at c7
  have C1 := Lib.hid c1
  have C2 := Lib.hid c2
  have C3 := Lib.hid c3
  have C5 := Lib.hid c5
  have C7 := Lib.hid c7
  have C8 := Lib.hid c8
  have C9 := Lib.hid c9
  have C10 := Lib.hid c10
  clear c1 c2 c3 c5 c7 c8 c9 c10 fe hs hk hf hi
  generalize ofNeg k n = zn at *
  generalize ofN k n = zm at *
  go_enter Tryd.func4, Tryd.ntmps4
  go_wp2_with fail
  refine (C1.out _).mono ?_
  rintro e w' ⟨rfl, rfl⟩
  go_wp2_with fail
  refine (C2.out _).mono ?_
  rintro e w' ⟨rfl, rfl⟩
  go_wp2_with fail
  refine (C3.out _ (Lib.tabIs_alloc htab _)).mono ?_
  rintro e w1 ⟨rfl, hw1⟩
  have kx0 : w1.cell? ⟨w.heap.size, 0, none⟩ = some (.bool xn) := by rw [(bcell hw1).1 _ _ (by simp)]; simp [go_sem]
  have kx1 : w1.cell? ⟨w.heap.size, 1, none⟩ = some (.int .u64 (u : Int)) := by rw [(bcell hw1).1 _ _ (by simp)]; simp [go_sem]
  have hz1 : w.heap.size < w1.heap.size := by have := hw1.size; simp at this; omega
  have hb1 : Below w.heap.size w w1 := below_two ((Below.refl _ _).alloc (Nat.le_refl _) _) hw1
  clear hw1 htab C1 C2 C3
  go_wp2_with fail
  refine (answers07 _).mono ?_
  rintro e w' ⟨rfl, rfl⟩
  go_wp2_with fail
  refine (C5.out _).mono ?_
  rintro e w2 ⟨rfl, hw2⟩
  have ky0 : w2.cell? ⟨w.heap.size, 0, none⟩ = some (.bool xn) := by rw [(bcell hw2).1 _ _ hz1, kx0]
  have ky1 : w2.cell? ⟨w.heap.size, 1, none⟩ = some (.int .u64 (u : Int)) := by rw [(bcell hw2).1 _ _ hz1, kx1]
  have hz2 : w.heap.size < w2.heap.size := by have := hw2.size; omega
  have hb2 : Below w.heap.size w w2 := below_two hb1 hw2
  clear hw2 kx0 kx1 hz1 hb1
  go_wp2_with fail
  refine (rdigits_any xn u hu1 _).mono ?_
  rintro e w3 ⟨rfl, hw3⟩
  have kz0 : w3.cell? ⟨w.heap.size, 0, none⟩ = some (.bool xn) := by rw [(bcell hw3).1 _ _ hz2, ky0]
  have kz1 : w3.cell? ⟨w.heap.size, 1, none⟩ = some (.int .u64 (u : Int)) := by rw [(bcell hw3).1 _ _ hz2, ky1]
  have hz3 : w.heap.size < w3.heap.size := by have := hw3.size; omega
  have hb3 : Below w.heap.size w w3 := below_two hb2 hw3
  clear hw3 ky0 ky1 hz2 hb2
  go_wp2_with fail
  refine (C7.out _).mono ?_
  rintro e w' ⟨rfl, rfl⟩
  have hB := hb3.alloc hb3.size (.cells #[.bool zn, .int .u64 zm] 32)
  have hC := hB.alloc hB.size (.cells #[.int .u64 n] 22)
  have hz3p : w.heap.size < w3.heap.size + 1 := by omega
  go_wp2_with fail
  refine wp_region_noPanic ?_
  refine wp_region_held_drew (S := (fun w' => w'.cell? ⟨w3.heap.size, 0, none⟩ = some (.bool zn) ∧ w'.cell? ⟨w3.heap.size, 1, none⟩ = some (.int .u64 zm) ∧ w'.cell? ⟨w.heap.size, 0, none⟩ = some (.bool xn) ∧ w'.cell? ⟨w.heap.size, 1, none⟩ = some (.int .u64 (u : Int)) ∧ Below w.heap.size w w' ∧ w3.heap.size < w'.heap.size)) (by kernel_rfl) ?_ (fun hHeld => ?_)
  · (try dsimp only); exact ⟨by simp, by simp, by simp [World.cell?_alloc_past, hz3, kz0], by simp [World.cell?_alloc_past, hz3, kz1], by first | exact hB | exact hB.drew, by simp⟩
  refine h_yes 0 92 (v := ?_) rfl rfl (by kernel_rfl) (by kernel_rfl) (by kernel_rfl) (fun _ _ _ h => h) (by kernel_rfl) (by assumption) ?_ ?_
  rotate_left 1
  · (intro w hSw; (try dsimp only at hSw); go_simp; try with_reducible rfl)
  try simp only [Act.put, List.setIfInBounds_toArray, List.set_cons_zero, List.set_cons_succ]
  refine h_yes 1 93 (v := ?_) rfl rfl (by kernel_rfl) (by kernel_rfl) (by kernel_rfl) (fun _ _ _ h => h) (by kernel_rfl) (by assumption) ?_ ?_
  rotate_left 1
  · (intro w hSw; (try dsimp only at hSw); go_simp; try with_reducible rfl)
  try simp only [Act.put, List.setIfInBounds_toArray, List.set_cons_zero, List.set_cons_succ]
  refine h_yes 2 94 (v := ?_) rfl rfl (by kernel_rfl) (by kernel_rfl) (by kernel_rfl) (fun _ _ _ h => h) (by kernel_rfl) (by assumption) ?_ ?_
  rotate_left 1
  · (intro w hSw; (try dsimp only at hSw); go_simp; try with_reducible rfl)
  try simp only [Act.put, List.setIfInBounds_toArray, List.set_cons_zero, List.set_cons_succ]
  refine h_step 3 rfl (by kernel_rfl) (by kernel_rfl) (fun K hK => ?_)
  go_simp
  refine hK.out _ _ ?_ (fun hHeld => ?_)
  · (try dsimp only); exact ⟨by simp [World.cell?_alloc_past], by simp [World.cell?_alloc_past], by simp [World.cell?_alloc_past, hz3, hz3p, kz0], by simp [World.cell?_alloc_past, hz3, hz3p, kz1], by first | exact hC.drew | exact hC, by simp; try omega⟩
  clear hK K
  try simp only [Act.put, List.setIfInBounds_toArray, List.set_cons_zero, List.set_cons_succ]
  refine h_step 4 rfl (by kernel_rfl) (by kernel_rfl) (fun K hK => ?_)
  go_simp
  refine (C8.out _ _ _ _ (by simp)).mono ?_
  rintro e w' ⟨rfl, rfl⟩
  go_wp2_with fail
  refine hK.out _ _ ?_ (fun hHeld => ?_)
  · (try dsimp only); exact hHeld
  clear hK K
  try simp only [Act.put, List.setIfInBounds_toArray, List.set_cons_zero, List.set_cons_succ]
  refine h_yes 5 97 (v := ?_) rfl rfl (by kernel_rfl) (by kernel_rfl) (by kernel_rfl) (fun _ _ _ h => h) (by kernel_rfl) (by assumption) ?_ ?_
  rotate_left 1
  · (intro w hSw; (try dsimp only at hSw); go_simp; try with_reducible rfl)
  try simp only [Act.put, List.setIfInBounds_toArray, List.set_cons_zero, List.set_cons_succ]
  refine h_yes 6 98 (v := ?_) rfl rfl (by kernel_rfl) (by kernel_rfl) (by kernel_rfl) (fun _ _ _ h => h) (by kernel_rfl) (by assumption) ?_ ?_
  rotate_left 1
  · (intro w hSw; (try dsimp only at hSw); go_simp; try with_reducible rfl)
  try simp only [Act.put, List.setIfInBounds_toArray, List.set_cons_zero, List.set_cons_succ]
  refine h_yes 7 99 (v := ?_) rfl rfl (by kernel_rfl) (by kernel_rfl) (by kernel_rfl) (fun _ _ _ h => h) (by kernel_rfl) (by assumption) ?_ ?_
  rotate_left 1
  · (intro w hSw; (try dsimp only at hSw); go_simp; try with_reducible rfl)
  try simp only [Act.put, List.setIfInBounds_toArray, List.set_cons_zero, List.set_cons_succ]
  refine h_yes 8 100 (v := ?_) rfl rfl (by kernel_rfl) (by kernel_rfl) (by kernel_rfl) (fun _ _ _ h => h) (by kernel_rfl) (by assumption) ?_ ?_
  rotate_left 1
  · (intro w hSw; (try dsimp only at hSw); go_simp; try with_reducible rfl)
  try simp only [Act.put, List.setIfInBounds_toArray, List.set_cons_zero, List.set_cons_succ]
  refine h_yes 9 101 (v := ?_) rfl rfl (by kernel_rfl) (by kernel_rfl) (by kernel_rfl) (fun _ _ _ h => h) (by kernel_rfl) (by assumption) ?_ ?_
  rotate_left 1
  · (intro w hSw; (try dsimp only at hSw); go_simp; try with_reducible rfl)
  try simp only [Act.put, List.setIfInBounds_toArray, List.set_cons_zero, List.set_cons_succ]
  refine h_no 10 102 rfl rfl (by kernel_rfl) (by kernel_rfl) (by kernel_rfl) (fun _ _ _ h => h) (by kernel_rfl) (by assumption) ?_
  try simp only [Act.put, List.setIfInBounds_toArray, List.set_cons_zero, List.set_cons_succ]
  refine h_no 11 103 rfl rfl (by kernel_rfl) (by kernel_rfl) (by kernel_rfl) (fun _ _ _ h => h) (by kernel_rfl) (by assumption) ?_
  try simp only [Act.put, List.setIfInBounds_toArray, List.set_cons_zero, List.set_cons_succ]
  refine h_no 12 104 rfl rfl (by kernel_rfl) (by kernel_rfl) (by kernel_rfl) (fun _ _ _ h => h) (by kernel_rfl) (by assumption) ?_
  try simp only [Act.put, List.setIfInBounds_toArray, List.set_cons_zero, List.set_cons_succ]
  refine h_yes 13 105 (v := ?_) rfl rfl (by kernel_rfl) (by kernel_rfl) (by kernel_rfl) (fun _ _ _ h => h) (by kernel_rfl) (by assumption) ?_ ?_
  rotate_left 1
  · (intro w hSw; (try dsimp only at hSw); go_simp; try with_reducible rfl)
  try simp only [Act.put, List.setIfInBounds_toArray, List.set_cons_zero, List.set_cons_succ]
  refine h_yes 14 106 (v := ?_) rfl rfl (by kernel_rfl) (by kernel_rfl) (by kernel_rfl) (fun _ _ _ h => h) (by kernel_rfl) (by assumption) ?_ ?_
  rotate_left 1
  · (intro w hSw; (try dsimp only at hSw); go_simp; try with_reducible rfl)
  try simp only [Act.put, List.setIfInBounds_toArray, List.set_cons_zero, List.set_cons_succ]
  refine h_yes 15 107 (v := ?_) rfl rfl (by kernel_rfl) (by kernel_rfl) (by kernel_rfl) (fun _ _ _ h => h) (by kernel_rfl) (by assumption) ?_ ?_
  rotate_left 1
  · (intro w hSw; (try dsimp only at hSw); go_simp; try with_reducible rfl)
  try simp only [Act.put, List.setIfInBounds_toArray, List.set_cons_zero, List.set_cons_succ]
  refine h_yes 16 108 (v := ?_) rfl rfl (by kernel_rfl) (by kernel_rfl) (by kernel_rfl) (fun _ _ _ h => h) (by kernel_rfl) (by assumption) ?_ ?_
  rotate_left 1
  · (intro w hSw; (try dsimp only at hSw); go_simp; try with_reducible rfl)
  try simp only [Act.put, List.setIfInBounds_toArray, List.set_cons_zero, List.set_cons_succ]
  refine h_yes 17 109 (v := ?_) rfl rfl (by kernel_rfl) (by kernel_rfl) (by kernel_rfl) (fun _ _ _ h => h) (by kernel_rfl) (by assumption) ?_ ?_
  rotate_left 1
  · (intro w hSw; (try dsimp only at hSw); go_simp; try with_reducible rfl)
  try simp only [Act.put, List.setIfInBounds_toArray, List.set_cons_zero, List.set_cons_succ]
  refine h_yes 18 110 (v := ?_) rfl rfl (by kernel_rfl) (by kernel_rfl) (by kernel_rfl) (fun _ _ _ h => h) (by kernel_rfl) (by assumption) ?_ ?_
  rotate_left 1
  · (intro w hSw; (try dsimp only at hSw); go_simp; try with_reducible rfl)
  try simp only [Act.put, List.setIfInBounds_toArray, List.set_cons_zero, List.set_cons_succ]
  refine h_yes 19 111 (v := ?_) rfl rfl (by kernel_rfl) (by kernel_rfl) (by kernel_rfl) (fun _ _ _ h => h) (by kernel_rfl) (by assumption) ?_ ?_
  rotate_left 1
  · (intro w hSw; (try dsimp only at hSw); go_simp; try with_reducible rfl)
  try simp only [Act.put, List.setIfInBounds_toArray, List.set_cons_zero, List.set_cons_succ]
  refine h_yes 20 112 (v := ?_) rfl rfl (by kernel_rfl) (by kernel_rfl) (by kernel_rfl) (fun _ _ _ h => h) (by kernel_rfl) (by assumption) ?_ ?_
  rotate_left 1
  · (intro w hSw; (try dsimp only at hSw); go_simp; try with_reducible rfl)
  try simp only [Act.put, List.setIfInBounds_toArray, List.set_cons_zero, List.set_cons_succ]
  refine h_yes 21 113 (v := ?_) rfl rfl (by kernel_rfl) (by kernel_rfl) (by kernel_rfl) (fun _ _ _ h => h) (by kernel_rfl) (by assumption) ?_ ?_
  rotate_left 1
  · (intro w hSw; (try dsimp only at hSw); go_simp; try with_reducible rfl)
  try simp only [Act.put, List.setIfInBounds_toArray, List.set_cons_zero, List.set_cons_succ]
  refine h_step 22 rfl (by kernel_rfl) (by kernel_rfl) (fun K hK => ?_)
  go_simp
  refine (C9.out _).mono ?_
  rintro e w7 ⟨rfl, hw7⟩
  obtain ⟨b0, b1, b2, b3, b4, b5⟩ := hHeld
  have e0 := (bcell hw7).1 _ 0 b5
  have e1 := (bcell hw7).1 _ 1 b5
  have e2 := (bcell hw7).1 _ 0 (Nat.lt_trans hz3 b5)
  have e3 := (bcell hw7).1 _ 1 (Nat.lt_trans hz3 b5)
  rw [b0] at e0
  rw [b1] at e1
  rw [b2] at e2
  rw [b3] at e3
  have e4 := below_two b4 hw7
  have e5 := Nat.lt_of_lt_of_le b5 hw7.size
  clear hw7 b0 b1 b2 b3 b4 b5
  go_wp2_with fail
  refine hK.out _ _ ?_ (fun hHeld => ?_)
  · (try dsimp only); exact ⟨e0, e1, e2, e3, e4, e5⟩
  clear hK K
  try simp only [Act.put, List.setIfInBounds_toArray, List.set_cons_zero, List.set_cons_succ]
  refine h_yes 23 115 (v := ?_) rfl rfl (by kernel_rfl) (by kernel_rfl) (by kernel_rfl) (fun _ _ _ h => h) (by kernel_rfl) (by assumption) ?_ ?_
  rotate_left 1
  · (intro w hSw; (try dsimp only at hSw); go_simp; try with_reducible rfl)
  try simp only [Act.put, List.setIfInBounds_toArray, List.set_cons_zero, List.set_cons_succ]
  refine h_yes 24 116 (v := ?_) rfl rfl (by kernel_rfl) (by kernel_rfl) (by kernel_rfl) (fun _ _ _ h => h) (by kernel_rfl) (by assumption) ?_ ?_
  rotate_left 1
  · (intro w hSw; (try dsimp only at hSw); go_simp; try with_reducible rfl)
  try simp only [Act.put, List.setIfInBounds_toArray, List.set_cons_zero, List.set_cons_succ]
  refine h_yes 25 117 (v := ?_) rfl rfl (by kernel_rfl) (by kernel_rfl) (by kernel_rfl) (fun _ _ _ h => h) (by kernel_rfl) (by assumption) ?_ ?_
  rotate_left 1
  · (intro w hSw; (try dsimp only at hSw); go_simp; try with_reducible rfl)
  try simp only [Act.put, List.setIfInBounds_toArray, List.set_cons_zero, List.set_cons_succ]
  refine wpAnyH_done (by kernel_rfl) ?_ _
  refine NoPanic.normal ?_
  obtain ⟨-, -, b2, b3, b4, b5⟩ := hHeld
  go_wp2_with fail
  refine (C5.out _).mono ?_
  rintro e w8 ⟨rfl, hw8⟩
  have a2 := (bcell hw8).1 _ 0 (Nat.lt_trans hz3 b5)
  have a3 := (bcell hw8).1 _ 1 (Nat.lt_trans hz3 b5)
  rw [b2] at a2
  rw [b3] at a3
  have a4 := below_two b4 hw8
  have a5 := Nat.lt_of_lt_of_le b5 hw8.size
  clear hw8 b2 b3 b4 b5
  obtain ⟨b2, b3, b4, b5⟩ := And.intro a2 (And.intro a3 (And.intro a4 a5))
  clear a2 a3 a4 a5
  go_wp2_with fail
  refine (C10.out _).mono ?_
  rintro e w9 ⟨rfl, hw9⟩
  have a2 := (bcell hw9).1 _ 0 (Nat.lt_trans hz3 b5)
  have a3 := (bcell hw9).1 _ 1 (Nat.lt_trans hz3 b5)
  rw [b2] at a2
  rw [b3] at a3
  have a4 := below_two b4 hw9
  have a5 := Nat.lt_of_lt_of_le b5 hw9.size
  clear hw9 b2 b3 b4 b5
  obtain ⟨b2, b3, b4, b5⟩ := And.intro a2 (And.intro a3 (And.intro a4 a5))
  clear a2 a3 a4 a5
  go_wp2
  go_ret
  exact ⟨rfl, b4⟩

set_option maxRecDepth 100000 in
set_option maxHeartbeats 1000000 in
theorem kwords_is_unsound (k : Int) (xn : Bool) (x n : Int) (h1 : -9223372036854775808 ≤ k) (h2 : k ≤ 9223372036854775807) (x0 : 0 ≤ x) (x1 : x ≤ 18446744073709551615) (n0 : 0 ≤ n) (n1 : n ≤ 18446744073709551615) (w : World) (htab : Lib.TabIs Tryd.prog w "internal/strconv.uint64pow10" .u64 Lib.pow10Tab)
    (hk : isW k = true) (hs : sound xn x = false) (hf : checkW k [n] = 0) :
    Calls Tryd.prog 4 #[.int .i64 k, .agg #[.bool xn, .int .u64 x], .int .u64 n] w fun e w' => e = .returned (.bool true) ∧ Below w.heap.size w w' := by
  have fe : kFitErr k xn x = 1 := by simp [kFitErr, hk, hs]
  have c1 := fun w => kfits_any k x xn w h1 h2 x0 x1
  rw [fe] at c1
  rw [show resW 1 (wordOf xn x) = 0 by simp [resW]] at c1
  have c2 := fun w => kof_any k n w h1 h2 n0 n1
  rw [hf] at c2
  rw [show (decide ((0 : Int) = 0) && ofNeg k n) = ofNeg k n by simp, show resW 0 (ofN k n) = ofN k n by simp [resW]] at c2
  have c3 := fun w => ktext_any xn x w x0 x1
  rw [hs] at c3
  rw [show txtK xn x = [] by simp [txtK, hs]] at c3
  have c5 := fun w => rconst_any xn x w
  rw [hs] at c5
  have c8 := fun b o c w h => rbad1 k n b o c w h1 h2 n0 n1 h
  rw [rBad1_eq k n n0 n1] at c8
  rw [hf] at c8
  have c9 := fun w => rof_any k n w h1 h2
  have c7 := fun w => rwhole_any k w
  rw [hk] at c7
  have C1 := Lib.hid c1
  have C2 := Lib.hid c2
  have C3 := Lib.hid c3
  have C5 := Lib.hid c5
  have C7 := Lib.hid c7
  have C8 := Lib.hid c8
  have C9 := Lib.hid c9
  clear c1 c2 c3 c5 c7 c8 c9 fe hs hk hf
  generalize ofNeg k n = zn at *
  generalize ofN k n = zm at *
  go_enter Tryd.func4, Tryd.ntmps4
  go_wp2_with fail
  refine (C1.out _).mono ?_
  rintro e w' ⟨rfl, rfl⟩
  go_wp2_with fail
  refine (C2.out _).mono ?_
  rintro e w' ⟨rfl, rfl⟩
  go_wp2_with fail
  refine (C3.out _ (Lib.tabIs_alloc htab _)).mono ?_
  rintro e w1 ⟨rfl, hw1⟩
  have kx0 : w1.cell? ⟨w.heap.size, 0, none⟩ = some (.bool xn) := by rw [(bcell hw1).1 _ _ (by simp)]; simp [go_sem]
  have kx1 : w1.cell? ⟨w.heap.size, 1, none⟩ = some (.int .u64 x) := by rw [(bcell hw1).1 _ _ (by simp)]; simp [go_sem]
  have hz1 : w.heap.size < w1.heap.size := by have := hw1.size; simp at this; omega
  have hb1 : Below w.heap.size w w1 := below_two ((Below.refl _ _).alloc (Nat.le_refl _) _) hw1
  clear hw1 htab C1 C2 C3
  go_wp2_with fail
  refine (answers07 _).mono ?_
  rintro e w' ⟨rfl, rfl⟩
  go_wp2_with fail
  refine (C5.out _).mono ?_
  rintro e w2 ⟨rfl, hw2⟩
  have ky0 : w2.cell? ⟨w.heap.size, 0, none⟩ = some (.bool xn) := by rw [(bcell hw2).1 _ _ hz1, kx0]
  have ky1 : w2.cell? ⟨w.heap.size, 1, none⟩ = some (.int .u64 x) := by rw [(bcell hw2).1 _ _ hz1, kx1]
  have hz2 : w.heap.size < w2.heap.size := by have := hw2.size; omega
  have hb2 : Below w.heap.size w w2 := below_two hb1 hw2
  clear hw2 kx0 kx1 hz1 hb1
  go_wp2_with fail
  refine (C7.out _).mono ?_
  rintro e w' ⟨rfl, rfl⟩
  have hB := hb2.alloc hb2.size (.cells #[.bool zn, .int .u64 zm] 32)
  have hC := hB.alloc hB.size (.cells #[.int .u64 n] 22)
  have hz2p : w.heap.size < w2.heap.size + 1 := by omega
  go_wp2_with fail
  refine wp_region_noPanic ?_
  refine wp_region_held_drew (S := (fun w' => w'.cell? ⟨w2.heap.size, 0, none⟩ = some (.bool zn) ∧ w'.cell? ⟨w2.heap.size, 1, none⟩ = some (.int .u64 zm) ∧ w'.cell? ⟨w.heap.size, 0, none⟩ = some (.bool xn) ∧ w'.cell? ⟨w.heap.size, 1, none⟩ = some (.int .u64 x) ∧ Below w.heap.size w w' ∧ w2.heap.size < w'.heap.size)) (by kernel_rfl) ?_ (fun hHeld => ?_)
  · (try dsimp only); exact ⟨by simp, by simp, by simp [World.cell?_alloc_past, hz2, ky0], by simp [World.cell?_alloc_past, hz2, ky1], by first | exact hB | exact hB.drew, by simp⟩
  refine h_yes 0 92 (v := ?_) rfl rfl (by kernel_rfl) (by kernel_rfl) (by kernel_rfl) (fun _ _ _ h => h) (by kernel_rfl) (by assumption) ?_ ?_
  rotate_left 1
  · (intro w hSw; (try dsimp only at hSw); go_simp; try with_reducible rfl)
  try simp only [Act.put, List.setIfInBounds_toArray, List.set_cons_zero, List.set_cons_succ]
  refine h_yes 1 93 (v := ?_) rfl rfl (by kernel_rfl) (by kernel_rfl) (by kernel_rfl) (fun _ _ _ h => h) (by kernel_rfl) (by assumption) ?_ ?_
  rotate_left 1
  · (intro w hSw; (try dsimp only at hSw); go_simp; try with_reducible rfl)
  try simp only [Act.put, List.setIfInBounds_toArray, List.set_cons_zero, List.set_cons_succ]
  refine h_yes 2 94 (v := ?_) rfl rfl (by kernel_rfl) (by kernel_rfl) (by kernel_rfl) (fun _ _ _ h => h) (by kernel_rfl) (by assumption) ?_ ?_
  rotate_left 1
  · (intro w hSw; (try dsimp only at hSw); go_simp; try with_reducible rfl)
  try simp only [Act.put, List.setIfInBounds_toArray, List.set_cons_zero, List.set_cons_succ]
  refine h_step 3 rfl (by kernel_rfl) (by kernel_rfl) (fun K hK => ?_)
  go_simp
  refine hK.out _ _ ?_ (fun hHeld => ?_)
  · (try dsimp only); exact ⟨by simp [World.cell?_alloc_past], by simp [World.cell?_alloc_past], by simp [World.cell?_alloc_past, hz2, hz2p, ky0], by simp [World.cell?_alloc_past, hz2, hz2p, ky1], by first | exact hC.drew | exact hC, by simp; try omega⟩
  clear hK K
  try simp only [Act.put, List.setIfInBounds_toArray, List.set_cons_zero, List.set_cons_succ]
  refine h_step 4 rfl (by kernel_rfl) (by kernel_rfl) (fun K hK => ?_)
  go_simp
  refine (C8.out _ _ _ _ (by simp)).mono ?_
  rintro e w' ⟨rfl, rfl⟩
  go_wp2_with fail
  refine hK.out _ _ ?_ (fun hHeld => ?_)
  · (try dsimp only); exact hHeld
  clear hK K
  try simp only [Act.put, List.setIfInBounds_toArray, List.set_cons_zero, List.set_cons_succ]
  refine h_yes 5 97 (v := ?_) rfl rfl (by kernel_rfl) (by kernel_rfl) (by kernel_rfl) (fun _ _ _ h => h) (by kernel_rfl) (by assumption) ?_ ?_
  rotate_left 1
  · (intro w hSw; (try dsimp only at hSw); go_simp; try with_reducible rfl)
  try simp only [Act.put, List.setIfInBounds_toArray, List.set_cons_zero, List.set_cons_succ]
  refine h_yes 6 98 (v := ?_) rfl rfl (by kernel_rfl) (by kernel_rfl) (by kernel_rfl) (fun _ _ _ h => h) (by kernel_rfl) (by assumption) ?_ ?_
  rotate_left 1
  · (intro w hSw; (try dsimp only at hSw); go_simp; try with_reducible rfl)
  try simp only [Act.put, List.setIfInBounds_toArray, List.set_cons_zero, List.set_cons_succ]
  refine h_yes 7 99 (v := ?_) rfl rfl (by kernel_rfl) (by kernel_rfl) (by kernel_rfl) (fun _ _ _ h => h) (by kernel_rfl) (by assumption) ?_ ?_
  rotate_left 1
  · (intro w hSw; (try dsimp only at hSw); go_simp; try with_reducible rfl)
  try simp only [Act.put, List.setIfInBounds_toArray, List.set_cons_zero, List.set_cons_succ]
  refine h_yes 8 100 (v := ?_) rfl rfl (by kernel_rfl) (by kernel_rfl) (by kernel_rfl) (fun _ _ _ h => h) (by kernel_rfl) (by assumption) ?_ ?_
  rotate_left 1
  · (intro w hSw; (try dsimp only at hSw); go_simp; try with_reducible rfl)
  try simp only [Act.put, List.setIfInBounds_toArray, List.set_cons_zero, List.set_cons_succ]
  refine h_yes 9 101 (v := ?_) rfl rfl (by kernel_rfl) (by kernel_rfl) (by kernel_rfl) (fun _ _ _ h => h) (by kernel_rfl) (by assumption) ?_ ?_
  rotate_left 1
  · (intro w hSw; (try dsimp only at hSw); go_simp; try with_reducible rfl)
  try simp only [Act.put, List.setIfInBounds_toArray, List.set_cons_zero, List.set_cons_succ]
  refine h_no 10 102 rfl rfl (by kernel_rfl) (by kernel_rfl) (by kernel_rfl) (fun _ _ _ h => h) (by kernel_rfl) (by assumption) ?_
  try simp only [Act.put, List.setIfInBounds_toArray, List.set_cons_zero, List.set_cons_succ]
  refine h_no 11 103 rfl rfl (by kernel_rfl) (by kernel_rfl) (by kernel_rfl) (fun _ _ _ h => h) (by kernel_rfl) (by assumption) ?_
  try simp only [Act.put, List.setIfInBounds_toArray, List.set_cons_zero, List.set_cons_succ]
  refine h_no 12 104 rfl rfl (by kernel_rfl) (by kernel_rfl) (by kernel_rfl) (fun _ _ _ h => h) (by kernel_rfl) (by assumption) ?_
  try simp only [Act.put, List.setIfInBounds_toArray, List.set_cons_zero, List.set_cons_succ]
  refine h_yes 13 105 (v := ?_) rfl rfl (by kernel_rfl) (by kernel_rfl) (by kernel_rfl) (fun _ _ _ h => h) (by kernel_rfl) (by assumption) ?_ ?_
  rotate_left 1
  · (intro w hSw; (try dsimp only at hSw); go_simp; try with_reducible rfl)
  try simp only [Act.put, List.setIfInBounds_toArray, List.set_cons_zero, List.set_cons_succ]
  refine h_yes 14 106 (v := ?_) rfl rfl (by kernel_rfl) (by kernel_rfl) (by kernel_rfl) (fun _ _ _ h => h) (by kernel_rfl) (by assumption) ?_ ?_
  rotate_left 1
  · (intro w hSw; (try dsimp only at hSw); go_simp; try with_reducible rfl)
  try simp only [Act.put, List.setIfInBounds_toArray, List.set_cons_zero, List.set_cons_succ]
  refine h_yes 15 107 (v := ?_) rfl rfl (by kernel_rfl) (by kernel_rfl) (by kernel_rfl) (fun _ _ _ h => h) (by kernel_rfl) (by assumption) ?_ ?_
  rotate_left 1
  · (intro w hSw; (try dsimp only at hSw); go_simp; try with_reducible rfl)
  try simp only [Act.put, List.setIfInBounds_toArray, List.set_cons_zero, List.set_cons_succ]
  refine h_yes 16 108 (v := ?_) rfl rfl (by kernel_rfl) (by kernel_rfl) (by kernel_rfl) (fun _ _ _ h => h) (by kernel_rfl) (by assumption) ?_ ?_
  rotate_left 1
  · (intro w hSw; (try dsimp only at hSw); go_simp; try with_reducible rfl)
  try simp only [Act.put, List.setIfInBounds_toArray, List.set_cons_zero, List.set_cons_succ]
  refine h_yes 17 109 (v := ?_) rfl rfl (by kernel_rfl) (by kernel_rfl) (by kernel_rfl) (fun _ _ _ h => h) (by kernel_rfl) (by assumption) ?_ ?_
  rotate_left 1
  · (intro w hSw; (try dsimp only at hSw); go_simp; try with_reducible rfl)
  try simp only [Act.put, List.setIfInBounds_toArray, List.set_cons_zero, List.set_cons_succ]
  refine h_yes 18 110 (v := ?_) rfl rfl (by kernel_rfl) (by kernel_rfl) (by kernel_rfl) (fun _ _ _ h => h) (by kernel_rfl) (by assumption) ?_ ?_
  rotate_left 1
  · (intro w hSw; (try dsimp only at hSw); go_simp; try with_reducible rfl)
  try simp only [Act.put, List.setIfInBounds_toArray, List.set_cons_zero, List.set_cons_succ]
  refine h_yes 19 111 (v := ?_) rfl rfl (by kernel_rfl) (by kernel_rfl) (by kernel_rfl) (fun _ _ _ h => h) (by kernel_rfl) (by assumption) ?_ ?_
  rotate_left 1
  · (intro w hSw; (try dsimp only at hSw); go_simp; try with_reducible rfl)
  try simp only [Act.put, List.setIfInBounds_toArray, List.set_cons_zero, List.set_cons_succ]
  refine h_yes 20 112 (v := ?_) rfl rfl (by kernel_rfl) (by kernel_rfl) (by kernel_rfl) (fun _ _ _ h => h) (by kernel_rfl) (by assumption) ?_ ?_
  rotate_left 1
  · (intro w hSw; (try dsimp only at hSw); go_simp; try with_reducible rfl)
  try simp only [Act.put, List.setIfInBounds_toArray, List.set_cons_zero, List.set_cons_succ]
  refine h_yes 21 113 (v := ?_) rfl rfl (by kernel_rfl) (by kernel_rfl) (by kernel_rfl) (fun _ _ _ h => h) (by kernel_rfl) (by assumption) ?_ ?_
  rotate_left 1
  · (intro w hSw; (try dsimp only at hSw); go_simp; try with_reducible rfl)
  try simp only [Act.put, List.setIfInBounds_toArray, List.set_cons_zero, List.set_cons_succ]
  refine h_step 22 rfl (by kernel_rfl) (by kernel_rfl) (fun K hK => ?_)
  go_simp
  refine (C9.out _).mono ?_
  rintro e w7 ⟨rfl, hw7⟩
  obtain ⟨b0, b1, b2, b3, b4, b5⟩ := hHeld
  have e0 := (bcell hw7).1 _ 0 b5
  have e1 := (bcell hw7).1 _ 1 b5
  have e2 := (bcell hw7).1 _ 0 (Nat.lt_trans hz2 b5)
  have e3 := (bcell hw7).1 _ 1 (Nat.lt_trans hz2 b5)
  rw [b0] at e0
  rw [b1] at e1
  rw [b2] at e2
  rw [b3] at e3
  have e4 := below_two b4 hw7
  have e5 := Nat.lt_of_lt_of_le b5 hw7.size
  clear hw7 b0 b1 b2 b3 b4 b5
  go_wp2_with fail
  refine hK.out _ _ ?_ (fun hHeld => ?_)
  · (try dsimp only); exact ⟨e0, e1, e2, e3, e4, e5⟩
  clear hK K
  try simp only [Act.put, List.setIfInBounds_toArray, List.set_cons_zero, List.set_cons_succ]
  refine h_yes 23 115 (v := ?_) rfl rfl (by kernel_rfl) (by kernel_rfl) (by kernel_rfl) (fun _ _ _ h => h) (by kernel_rfl) (by assumption) ?_ ?_
  rotate_left 1
  · (intro w hSw; (try dsimp only at hSw); go_simp; try with_reducible rfl)
  try simp only [Act.put, List.setIfInBounds_toArray, List.set_cons_zero, List.set_cons_succ]
  refine h_yes 24 116 (v := ?_) rfl rfl (by kernel_rfl) (by kernel_rfl) (by kernel_rfl) (fun _ _ _ h => h) (by kernel_rfl) (by assumption) ?_ ?_
  rotate_left 1
  · (intro w hSw; (try dsimp only at hSw); go_simp; try with_reducible rfl)
  try simp only [Act.put, List.setIfInBounds_toArray, List.set_cons_zero, List.set_cons_succ]
  refine h_yes 25 117 (v := ?_) rfl rfl (by kernel_rfl) (by kernel_rfl) (by kernel_rfl) (fun _ _ _ h => h) (by kernel_rfl) (by assumption) ?_ ?_
  rotate_left 1
  · (intro w hSw; (try dsimp only at hSw); go_simp; try with_reducible rfl)
  try simp only [Act.put, List.setIfInBounds_toArray, List.set_cons_zero, List.set_cons_succ]
  refine wpAnyH_done (by kernel_rfl) ?_ _
  refine NoPanic.normal ?_
  obtain ⟨-, -, b2, b3, b4, b5⟩ := hHeld
  go_wp2_with fail
  refine (C5.out _).mono ?_
  rintro e w8 ⟨rfl, hw8⟩
  have a2 := (bcell hw8).1 _ 0 (Nat.lt_trans hz2 b5)
  have a3 := (bcell hw8).1 _ 1 (Nat.lt_trans hz2 b5)
  rw [b2] at a2
  rw [b3] at a3
  have a4 := below_two b4 hw8
  have a5 := Nat.lt_of_lt_of_le b5 hw8.size
  clear hw8 b2 b3 b4 b5
  obtain ⟨b2, b3, b4, b5⟩ := And.intro a2 (And.intro a3 (And.intro a4 a5))
  clear a2 a3 a4 a5
  go_wp2
  go_ret
  exact ⟨rfl, b4⟩

set_option maxRecDepth 100000 in
set_option maxHeartbeats 1000000 in
theorem kwords_isnt_in (k : Int) (xn : Bool) (x n : Int) (h1 : -9223372036854775808 ≤ k) (h2 : k ≤ 9223372036854775807) (x0 : 0 ≤ x) (x1 : x ≤ 18446744073709551615) (n0 : 0 ≤ n) (n1 : n ≤ 18446744073709551615) (w : World) (htab : Lib.TabIs Tryd.prog w "internal/strconv.uint64pow10" .u64 Lib.pow10Tab)
    (hk : isW k = true) (hs : sound xn x = true) (hf : ¬ checkW k [n] = 0) (hi : fitsK k xn x = true) :
    Calls Tryd.prog 4 #[.int .i64 k, .agg #[.bool xn, .int .u64 x], .int .u64 n] w fun e w' => e = .returned (.bool true) ∧ Below w.heap.size w w' := by
  have fe : kFitErr k xn x = 0 := by simp [kFitErr, hk, hs, hi]
  have c1 := fun w => kfits_any k x xn w h1 h2 x0 x1
  rw [fe] at c1
  rw [show resW 0 (wordOf xn x) = wordOf xn x by simp [resW]] at c1
  have c2 := fun w => kof_any k n w h1 h2 n0 n1
  rw [show (decide (checkW k [n] = 0) && ofNeg k n) = false by simp [hf], show resW (checkW k [n]) (ofN k n) = 0 by simp [resW, hf]] at c2
  have c3 := fun w => ktext_any xn x w x0 x1
  rw [hs] at c3
  obtain ⟨u, rfl⟩ : ∃ u : Nat, x = u := ⟨x.toNat, by omega⟩
  have hu1 : u < 18446744073709551616 := by omega
  rw [show txtK xn u = digsK xn u by simp [txtK, hs]] at c3
  have c5 := fun w => rconst_any xn (u : Int) w
  rw [hs] at c5
  have c8 := fun b o c w h => rbad1 k n b o c w h1 h2 n0 n1 h
  rw [rBad1_eq k n n0 n1] at c8
  have d1 : (checkW k [n] != 0) = true := by simp [hf]
  have d2 : (checkW k [n] == 0) = false := by simp [hf]
  have c10 := fun w => rin_any k (u : Int) xn w h1 h2 hk x0 x1
  rw [rin_fits k (u : Int) xn hk hs x0 x1, hi] at c10
  have c11 := fun w => rword_any xn (u : Int) w x0 x1
  have c7 := fun w => rwhole_any k w
  rw [hk] at c7
  have C1 := Lib.hid c1
  have C2 := Lib.hid c2
  have C3 := Lib.hid c3
  have C5 := Lib.hid c5
  have C7 := Lib.hid c7
  have C8 := Lib.hid c8
  have C10 := Lib.hid c10
  have C11 := Lib.hid c11
  clear c1 c2 c3 c5 c7 c8 c10 c11 fe hs hk hf hi
  generalize checkW k [n] = cw at *
  generalize wordOf xn u = xw at *
  go_enter Tryd.func4, Tryd.ntmps4
  go_wp2_with fail
  refine (C1.out _).mono ?_
  rintro e w' ⟨rfl, rfl⟩
  go_wp2_with fail
  refine (C2.out _).mono ?_
  rintro e w' ⟨rfl, rfl⟩
  go_wp2_with fail
  refine (C3.out _ (Lib.tabIs_alloc htab _)).mono ?_
  rintro e w1 ⟨rfl, hw1⟩
  have kx0 : w1.cell? ⟨w.heap.size, 0, none⟩ = some (.bool xn) := by rw [(bcell hw1).1 _ _ (by simp)]; simp [go_sem]
  have kx1 : w1.cell? ⟨w.heap.size, 1, none⟩ = some (.int .u64 (u : Int)) := by rw [(bcell hw1).1 _ _ (by simp)]; simp [go_sem]
  have hz1 : w.heap.size < w1.heap.size := by have := hw1.size; simp at this; omega
  have hb1 : Below w.heap.size w w1 := below_two ((Below.refl _ _).alloc (Nat.le_refl _) _) hw1
  clear hw1 htab C1 C2 C3
  go_wp2_with fail
  refine (answers07 _).mono ?_
  rintro e w' ⟨rfl, rfl⟩
  go_wp2_with fail
  refine (C5.out _).mono ?_
  rintro e w2 ⟨rfl, hw2⟩
  have ky0 : w2.cell? ⟨w.heap.size, 0, none⟩ = some (.bool xn) := by rw [(bcell hw2).1 _ _ hz1, kx0]
  have ky1 : w2.cell? ⟨w.heap.size, 1, none⟩ = some (.int .u64 (u : Int)) := by rw [(bcell hw2).1 _ _ hz1, kx1]
  have hz2 : w.heap.size < w2.heap.size := by have := hw2.size; omega
  have hb2 : Below w.heap.size w w2 := below_two hb1 hw2
  clear hw2 kx0 kx1 hz1 hb1
  go_wp2_with fail
  refine (rdigits_any xn u hu1 _).mono ?_
  rintro e w3 ⟨rfl, hw3⟩
  have kz0 : w3.cell? ⟨w.heap.size, 0, none⟩ = some (.bool xn) := by rw [(bcell hw3).1 _ _ hz2, ky0]
  have kz1 : w3.cell? ⟨w.heap.size, 1, none⟩ = some (.int .u64 (u : Int)) := by rw [(bcell hw3).1 _ _ hz2, ky1]
  have hz3 : w.heap.size < w3.heap.size := by have := hw3.size; omega
  have hb3 : Below w.heap.size w w3 := below_two hb2 hw3
  clear hw3 ky0 ky1 hz2 hb2
  go_wp2_with fail
  refine (C7.out _).mono ?_
  rintro e w' ⟨rfl, rfl⟩
  have hB := hb3.alloc hb3.size (.cells #[.bool false, .int .u64 0] 32)
  have hC := hB.alloc hB.size (.cells #[.int .u64 n] 22)
  have hz3p : w.heap.size < w3.heap.size + 1 := by omega
  go_wp2_with fail
  refine wp_region_noPanic ?_
  refine wp_region_held_drew (S := (fun w' => w'.cell? ⟨w3.heap.size, 0, none⟩ = some (.bool false) ∧ w'.cell? ⟨w3.heap.size, 1, none⟩ = some (.int .u64 0) ∧ w'.cell? ⟨w.heap.size, 0, none⟩ = some (.bool xn) ∧ w'.cell? ⟨w.heap.size, 1, none⟩ = some (.int .u64 (u : Int)) ∧ Below w.heap.size w w' ∧ w3.heap.size < w'.heap.size)) (by kernel_rfl) ?_ (fun hHeld => ?_)
  · (try dsimp only); exact ⟨by simp, by simp, by simp [World.cell?_alloc_past, hz3, kz0], by simp [World.cell?_alloc_past, hz3, kz1], by first | exact hB | exact hB.drew, by simp⟩
  refine h_yes 0 92 (v := ?_) rfl rfl (by kernel_rfl) (by kernel_rfl) (by kernel_rfl) (fun _ _ _ h => h) (by kernel_rfl) (by assumption) ?_ ?_
  rotate_left 1
  · (intro w hSw; (try dsimp only at hSw); go_simp; try with_reducible rfl)
  try simp only [Act.put, List.setIfInBounds_toArray, List.set_cons_zero, List.set_cons_succ]
  refine h_yes 1 93 (v := ?_) rfl rfl (by kernel_rfl) (by kernel_rfl) (by kernel_rfl) (fun _ _ _ h => h) (by kernel_rfl) (by assumption) ?_ ?_
  rotate_left 1
  · (intro w hSw; (try dsimp only at hSw); go_simp; try with_reducible rfl)
  try simp only [Act.put, List.setIfInBounds_toArray, List.set_cons_zero, List.set_cons_succ]
  refine h_yes 2 94 (v := ?_) rfl rfl (by kernel_rfl) (by kernel_rfl) (by kernel_rfl) (fun _ _ _ h => h) (by kernel_rfl) (by assumption) ?_ ?_
  rotate_left 1
  · (intro w hSw; (try dsimp only at hSw); go_simp; try with_reducible rfl)
  try simp only [Act.put, List.setIfInBounds_toArray, List.set_cons_zero, List.set_cons_succ]
  refine h_step 3 rfl (by kernel_rfl) (by kernel_rfl) (fun K hK => ?_)
  go_simp
  refine hK.out _ _ ?_ (fun hHeld => ?_)
  · (try dsimp only); exact ⟨by simp [World.cell?_alloc_past], by simp [World.cell?_alloc_past], by simp [World.cell?_alloc_past, hz3, hz3p, kz0], by simp [World.cell?_alloc_past, hz3, hz3p, kz1], by first | exact hC.drew | exact hC, by simp; try omega⟩
  clear hK K
  try simp only [Act.put, List.setIfInBounds_toArray, List.set_cons_zero, List.set_cons_succ]
  refine h_step 4 rfl (by kernel_rfl) (by kernel_rfl) (fun K hK => ?_)
  go_simp
  refine (C8.out _ _ _ _ (by simp)).mono ?_
  rintro e w' ⟨rfl, rfl⟩
  go_wp2_with fail
  refine hK.out _ _ ?_ (fun hHeld => ?_)
  · (try dsimp only); exact hHeld
  clear hK K
  try simp only [Act.put, List.setIfInBounds_toArray, List.set_cons_zero, List.set_cons_succ]
  refine h_yes 5 97 (v := ?_) rfl rfl (by kernel_rfl) (by kernel_rfl) (by kernel_rfl) (fun _ _ _ h => h) (by kernel_rfl) (by assumption) ?_ ?_
  rotate_left 1
  · (intro w hSw; (try dsimp only at hSw); go_simp; try with_reducible rfl)
  try simp only [Act.put, List.setIfInBounds_toArray, List.set_cons_zero, List.set_cons_succ]
  refine h_yes 6 98 (v := ?_) rfl rfl (by kernel_rfl) (by kernel_rfl) (by kernel_rfl) (fun _ _ _ h => h) (by kernel_rfl) (by assumption) ?_ ?_
  rotate_left 1
  · (intro w hSw; (try dsimp only at hSw); go_simp; try with_reducible rfl)
  try simp only [Act.put, List.setIfInBounds_toArray, List.set_cons_zero, List.set_cons_succ]
  refine h_yes 7 99 (v := ?_) rfl rfl (by kernel_rfl) (by kernel_rfl) (by kernel_rfl) (fun _ _ _ h => h) (by kernel_rfl) (by assumption) ?_ ?_
  rotate_left 1
  · (intro w hSw; (try dsimp only at hSw); go_simp; try with_reducible rfl)
  try simp only [Act.put, List.setIfInBounds_toArray, List.set_cons_zero, List.set_cons_succ]
  refine h_yes 8 100 (v := ?_) rfl rfl (by kernel_rfl) (by kernel_rfl) (by kernel_rfl) (fun _ _ _ h => h) (by kernel_rfl) (by assumption) ?_ ?_
  rotate_left 1
  · (intro w hSw; (try dsimp only at hSw); go_simp; try with_reducible rfl)
  try simp only [Act.put, List.setIfInBounds_toArray, List.set_cons_zero, List.set_cons_succ]
  refine h_yes 9 101 (v := ?_) rfl rfl (by kernel_rfl) (by kernel_rfl) (by kernel_rfl) (fun _ _ _ h => h) (by kernel_rfl) (by assumption) ?_ ?_
  rotate_left 1
  · (intro w hSw; (try dsimp only at hSw); go_simp; try with_reducible rfl)
  try simp only [Act.put, List.setIfInBounds_toArray, List.set_cons_zero, List.set_cons_succ]
  refine h_yes 10 102 (v := ?_) rfl rfl (by kernel_rfl) (by kernel_rfl) (by kernel_rfl) (fun _ _ _ h => h) (by kernel_rfl) (by assumption) ?_ ?_
  rotate_left 1
  · (intro w hSw; (try dsimp only at hSw); go_simp; try with_reducible rfl)
  try simp only [Act.put, List.setIfInBounds_toArray, List.set_cons_zero, List.set_cons_succ]
  refine h_yes 11 103 (v := ?_) rfl rfl (by kernel_rfl) (by kernel_rfl) (by kernel_rfl) (fun _ _ _ h => h) (by kernel_rfl) (by assumption) ?_ ?_
  rotate_left 1
  · (intro w hSw; (try dsimp only at hSw); go_simp; try with_reducible rfl)
  try simp only [Act.put, List.setIfInBounds_toArray, List.set_cons_zero, List.set_cons_succ]
  refine h_yes 12 104 (v := ?_) rfl rfl (by kernel_rfl) (by kernel_rfl) (by kernel_rfl) (fun _ _ _ h => h) (by kernel_rfl) (by assumption) ?_ ?_
  rotate_left 1
  · (intro w hSw; (try dsimp only at hSw); go_simp; try with_reducible rfl)
  try simp only [Act.put, List.setIfInBounds_toArray, List.set_cons_zero, List.set_cons_succ]
  refine h_yes 13 105 (v := ?_) rfl rfl (by kernel_rfl) (by kernel_rfl) (by kernel_rfl) (fun _ _ _ h => h) (by kernel_rfl) (by assumption) ?_ ?_
  rotate_left 1
  · (intro w hSw; (try dsimp only at hSw); go_simp; try with_reducible rfl)
  try simp only [Act.put, List.setIfInBounds_toArray, List.set_cons_zero, List.set_cons_succ]
  refine h_yes 14 106 (v := ?_) rfl rfl (by kernel_rfl) (by kernel_rfl) (by kernel_rfl) (fun _ _ _ h => h) (by kernel_rfl) (by assumption) ?_ ?_
  rotate_left 1
  · (intro w hSw; (try dsimp only at hSw); go_simp; try with_reducible rfl)
  try simp only [Act.put, List.setIfInBounds_toArray, List.set_cons_zero, List.set_cons_succ]
  refine h_yes 15 107 (v := ?_) rfl rfl (by kernel_rfl) (by kernel_rfl) (by kernel_rfl) (fun _ _ _ h => h) (by kernel_rfl) (by assumption) ?_ ?_
  rotate_left 1
  · (intro w hSw; (try dsimp only at hSw); go_simp; try with_reducible rfl)
  try simp only [Act.put, List.setIfInBounds_toArray, List.set_cons_zero, List.set_cons_succ]
  refine h_yes 16 108 (v := ?_) rfl rfl (by kernel_rfl) (by kernel_rfl) (by kernel_rfl) (fun _ _ _ h => h) (by kernel_rfl) (by assumption) ?_ ?_
  rotate_left 1
  · (intro w hSw; (try dsimp only at hSw); go_simp; try with_reducible rfl)
  try simp only [Act.put, List.setIfInBounds_toArray, List.set_cons_zero, List.set_cons_succ]
  refine h_yes 17 109 (v := ?_) rfl rfl (by kernel_rfl) (by kernel_rfl) (by kernel_rfl) (fun _ _ _ h => h) (by kernel_rfl) (by assumption) ?_ ?_
  rotate_left 1
  · (intro w hSw; (try dsimp only at hSw); go_simp; try with_reducible rfl)
  try simp only [Act.put, List.setIfInBounds_toArray, List.set_cons_zero, List.set_cons_succ]
  refine h_yes 18 110 (v := ?_) rfl rfl (by kernel_rfl) (by kernel_rfl) (by kernel_rfl) (fun _ _ _ h => h) (by kernel_rfl) (by assumption) ?_ ?_
  rotate_left 1
  · (intro w hSw; (try dsimp only at hSw); go_simp; try with_reducible rfl)
  try simp only [Act.put, List.setIfInBounds_toArray, List.set_cons_zero, List.set_cons_succ]
  refine h_no 19 111 rfl rfl (by kernel_rfl) (by kernel_rfl) (by kernel_rfl) (fun _ _ _ h => h) (by kernel_rfl) (by assumption) ?_
  try simp only [Act.put, List.setIfInBounds_toArray, List.set_cons_zero, List.set_cons_succ]
  refine h_no 20 112 rfl rfl (by kernel_rfl) (by kernel_rfl) (by kernel_rfl) (fun _ _ _ h => h) (by kernel_rfl) (by assumption) ?_
  try simp only [Act.put, List.setIfInBounds_toArray, List.set_cons_zero, List.set_cons_succ]
  refine h_no 21 113 rfl rfl (by kernel_rfl) (by kernel_rfl) (by kernel_rfl) (fun _ _ _ h => h) (by kernel_rfl) (by assumption) ?_
  try simp only [Act.put, List.setIfInBounds_toArray, List.set_cons_zero, List.set_cons_succ]
  refine h_no 22 114 rfl rfl (by kernel_rfl) (by kernel_rfl) (by kernel_rfl) (fun _ _ _ h => h) (by kernel_rfl) (by assumption) ?_
  try simp only [Act.put, List.setIfInBounds_toArray, List.set_cons_zero, List.set_cons_succ]
  refine h_no 23 115 rfl rfl (by kernel_rfl) (by kernel_rfl) (by kernel_rfl) (fun _ _ _ h => h) (by kernel_rfl) (by assumption) ?_
  try simp only [Act.put, List.setIfInBounds_toArray, List.set_cons_zero, List.set_cons_succ]
  refine h_yes 24 116 (v := ?_) rfl rfl (by kernel_rfl) (by kernel_rfl) (by kernel_rfl) (fun _ _ _ h => h) (by kernel_rfl) (by assumption) ?_ ?_
  rotate_left 1
  · (intro w hSw; (try dsimp only at hSw); go_simp; try with_reducible rfl)
  try simp only [Act.put, List.setIfInBounds_toArray, List.set_cons_zero, List.set_cons_succ]
  refine h_yes 25 117 (v := ?_) rfl rfl (by kernel_rfl) (by kernel_rfl) (by kernel_rfl) (fun _ _ _ h => h) (by kernel_rfl) (by assumption) ?_ ?_
  rotate_left 1
  · (intro w hSw; (try dsimp only at hSw); go_simp; try with_reducible rfl)
  try simp only [Act.put, List.setIfInBounds_toArray, List.set_cons_zero, List.set_cons_succ]
  refine wpAnyH_done (by kernel_rfl) ?_ _
  refine NoPanic.normal ?_
  obtain ⟨-, -, b2, b3, b4, b5⟩ := hHeld
  have hx2 := hz3p
  clear hB hC
  go_wp2_with fail
  refine (C5.out _).mono ?_
  rintro e w8 ⟨rfl, hw8⟩
  have a2 := (bcell hw8).1 _ 0 (Nat.lt_trans hz3 b5)
  have a3 := (bcell hw8).1 _ 1 (Nat.lt_trans hz3 b5)
  rw [b2] at a2
  rw [b3] at a3
  have a4 := below_two b4 hw8
  have a5 := Nat.lt_of_lt_of_le b5 hw8.size
  clear hw8 b2 b3 b4 b5
  obtain ⟨b2, b3, b4, b5⟩ := And.intro a2 (And.intro a3 (And.intro a4 a5))
  clear a2 a3 a4 a5
  go_wp2_with fail
  refine (C10.out _).mono ?_
  rintro e w9 ⟨rfl, hw9⟩
  have a2 := (bcell hw9).1 _ 0 (Nat.lt_trans hz3 b5)
  have a3 := (bcell hw9).1 _ 1 (Nat.lt_trans hz3 b5)
  rw [b2] at a2
  rw [b3] at a3
  have a4 := below_two b4 hw9
  have a5 := Nat.lt_of_lt_of_le b5 hw9.size
  clear hw9 b2 b3 b4 b5
  obtain ⟨b2, b3, b4, b5⟩ := And.intro a2 (And.intro a3 (And.intro a4 a5))
  clear a2 a3 a4 a5
  go_wp2_with fail
  refine (C11.out _).mono ?_
  rintro e w10 ⟨rfl, hw10⟩
  have a2 := (bcell hw10).1 _ 0 (Nat.lt_trans hz3 b5)
  have a3 := (bcell hw10).1 _ 1 (Nat.lt_trans hz3 b5)
  rw [b2] at a2
  rw [b3] at a3
  have a4 := below_two b4 hw10
  have a5 := Nat.lt_of_lt_of_le b5 hw10.size
  clear hw10 b2 b3 b4 b5
  obtain ⟨b2, b3, b4, b5⟩ := And.intro a2 (And.intro a3 (And.intro a4 a5))
  clear a2 a3 a4 a5
  go_wp2
  go_ret
  exact ⟨rfl, b4⟩

set_option maxRecDepth 100000 in
set_option maxHeartbeats 1000000 in
theorem kwords_isnt_out (k : Int) (xn : Bool) (x n : Int) (h1 : -9223372036854775808 ≤ k) (h2 : k ≤ 9223372036854775807) (x0 : 0 ≤ x) (x1 : x ≤ 18446744073709551615) (n0 : 0 ≤ n) (n1 : n ≤ 18446744073709551615) (w : World) (htab : Lib.TabIs Tryd.prog w "internal/strconv.uint64pow10" .u64 Lib.pow10Tab)
    (hk : isW k = true) (hs : sound xn x = true) (hf : ¬ checkW k [n] = 0) (hi : fitsK k xn x = false) :
    Calls Tryd.prog 4 #[.int .i64 k, .agg #[.bool xn, .int .u64 x], .int .u64 n] w fun e w' => e = .returned (.bool true) ∧ Below w.heap.size w w' := by
  have fe : kFitErr k xn x = 10 := by simp [kFitErr, hk, hs, hi]
  have c1 := fun w => kfits_any k x xn w h1 h2 x0 x1
  rw [fe] at c1
  rw [show resW 10 (wordOf xn x) = 0 by simp [resW]] at c1
  have c2 := fun w => kof_any k n w h1 h2 n0 n1
  rw [show (decide (checkW k [n] = 0) && ofNeg k n) = false by simp [hf], show resW (checkW k [n]) (ofN k n) = 0 by simp [resW, hf]] at c2
  have c3 := fun w => ktext_any xn x w x0 x1
  rw [hs] at c3
  obtain ⟨u, rfl⟩ : ∃ u : Nat, x = u := ⟨x.toNat, by omega⟩
  have hu1 : u < 18446744073709551616 := by omega
  rw [show txtK xn u = digsK xn u by simp [txtK, hs]] at c3
  have c5 := fun w => rconst_any xn (u : Int) w
  rw [hs] at c5
  have c8 := fun b o c w h => rbad1 k n b o c w h1 h2 n0 n1 h
  rw [rBad1_eq k n n0 n1] at c8
  have d1 : (checkW k [n] != 0) = true := by simp [hf]
  have d2 : (checkW k [n] == 0) = false := by simp [hf]
  have c10 := fun w => rin_any k (u : Int) xn w h1 h2 hk x0 x1
  rw [rin_fits k (u : Int) xn hk hs x0 x1, hi] at c10
  have c7 := fun w => rwhole_any k w
  rw [hk] at c7
  have C1 := Lib.hid c1
  have C2 := Lib.hid c2
  have C3 := Lib.hid c3
  have C5 := Lib.hid c5
  have C7 := Lib.hid c7
  have C8 := Lib.hid c8
  have C10 := Lib.hid c10
  clear c1 c2 c3 c5 c7 c8 c10 fe hs hk hf hi
  generalize checkW k [n] = cw at *
  go_enter Tryd.func4, Tryd.ntmps4
  go_wp2_with fail
  refine (C1.out _).mono ?_
  rintro e w' ⟨rfl, rfl⟩
  go_wp2_with fail
  refine (C2.out _).mono ?_
  rintro e w' ⟨rfl, rfl⟩
  go_wp2_with fail
  refine (C3.out _ (Lib.tabIs_alloc htab _)).mono ?_
  rintro e w1 ⟨rfl, hw1⟩
  have kx0 : w1.cell? ⟨w.heap.size, 0, none⟩ = some (.bool xn) := by rw [(bcell hw1).1 _ _ (by simp)]; simp [go_sem]
  have kx1 : w1.cell? ⟨w.heap.size, 1, none⟩ = some (.int .u64 (u : Int)) := by rw [(bcell hw1).1 _ _ (by simp)]; simp [go_sem]
  have hz1 : w.heap.size < w1.heap.size := by have := hw1.size; simp at this; omega
  have hb1 : Below w.heap.size w w1 := below_two ((Below.refl _ _).alloc (Nat.le_refl _) _) hw1
  clear hw1 htab C1 C2 C3
  go_wp2_with fail
  refine (answers07 _).mono ?_
  rintro e w' ⟨rfl, rfl⟩
  go_wp2_with fail
  refine (C5.out _).mono ?_
  rintro e w2 ⟨rfl, hw2⟩
  have ky0 : w2.cell? ⟨w.heap.size, 0, none⟩ = some (.bool xn) := by rw [(bcell hw2).1 _ _ hz1, kx0]
  have ky1 : w2.cell? ⟨w.heap.size, 1, none⟩ = some (.int .u64 (u : Int)) := by rw [(bcell hw2).1 _ _ hz1, kx1]
  have hz2 : w.heap.size < w2.heap.size := by have := hw2.size; omega
  have hb2 : Below w.heap.size w w2 := below_two hb1 hw2
  clear hw2 kx0 kx1 hz1 hb1
  go_wp2_with fail
  refine (rdigits_any xn u hu1 _).mono ?_
  rintro e w3 ⟨rfl, hw3⟩
  have kz0 : w3.cell? ⟨w.heap.size, 0, none⟩ = some (.bool xn) := by rw [(bcell hw3).1 _ _ hz2, ky0]
  have kz1 : w3.cell? ⟨w.heap.size, 1, none⟩ = some (.int .u64 (u : Int)) := by rw [(bcell hw3).1 _ _ hz2, ky1]
  have hz3 : w.heap.size < w3.heap.size := by have := hw3.size; omega
  have hb3 : Below w.heap.size w w3 := below_two hb2 hw3
  clear hw3 ky0 ky1 hz2 hb2
  go_wp2_with fail
  refine (C7.out _).mono ?_
  rintro e w' ⟨rfl, rfl⟩
  have hB := hb3.alloc hb3.size (.cells #[.bool false, .int .u64 0] 32)
  have hC := hB.alloc hB.size (.cells #[.int .u64 n] 22)
  have hz3p : w.heap.size < w3.heap.size + 1 := by omega
  go_wp2_with fail
  refine wp_region_noPanic ?_
  refine wp_region_held_drew (S := (fun w' => w'.cell? ⟨w3.heap.size, 0, none⟩ = some (.bool false) ∧ w'.cell? ⟨w3.heap.size, 1, none⟩ = some (.int .u64 0) ∧ w'.cell? ⟨w.heap.size, 0, none⟩ = some (.bool xn) ∧ w'.cell? ⟨w.heap.size, 1, none⟩ = some (.int .u64 (u : Int)) ∧ Below w.heap.size w w' ∧ w3.heap.size < w'.heap.size)) (by kernel_rfl) ?_ (fun hHeld => ?_)
  · (try dsimp only); exact ⟨by simp, by simp, by simp [World.cell?_alloc_past, hz3, kz0], by simp [World.cell?_alloc_past, hz3, kz1], by first | exact hB | exact hB.drew, by simp⟩
  refine h_yes 0 92 (v := ?_) rfl rfl (by kernel_rfl) (by kernel_rfl) (by kernel_rfl) (fun _ _ _ h => h) (by kernel_rfl) (by assumption) ?_ ?_
  rotate_left 1
  · (intro w hSw; (try dsimp only at hSw); go_simp; try with_reducible rfl)
  try simp only [Act.put, List.setIfInBounds_toArray, List.set_cons_zero, List.set_cons_succ]
  refine h_yes 1 93 (v := ?_) rfl rfl (by kernel_rfl) (by kernel_rfl) (by kernel_rfl) (fun _ _ _ h => h) (by kernel_rfl) (by assumption) ?_ ?_
  rotate_left 1
  · (intro w hSw; (try dsimp only at hSw); go_simp; try with_reducible rfl)
  try simp only [Act.put, List.setIfInBounds_toArray, List.set_cons_zero, List.set_cons_succ]
  refine h_yes 2 94 (v := ?_) rfl rfl (by kernel_rfl) (by kernel_rfl) (by kernel_rfl) (fun _ _ _ h => h) (by kernel_rfl) (by assumption) ?_ ?_
  rotate_left 1
  · (intro w hSw; (try dsimp only at hSw); go_simp; try with_reducible rfl)
  try simp only [Act.put, List.setIfInBounds_toArray, List.set_cons_zero, List.set_cons_succ]
  refine h_step 3 rfl (by kernel_rfl) (by kernel_rfl) (fun K hK => ?_)
  go_simp
  refine hK.out _ _ ?_ (fun hHeld => ?_)
  · (try dsimp only); exact ⟨by simp [World.cell?_alloc_past], by simp [World.cell?_alloc_past], by simp [World.cell?_alloc_past, hz3, hz3p, kz0], by simp [World.cell?_alloc_past, hz3, hz3p, kz1], by first | exact hC.drew | exact hC, by simp; try omega⟩
  clear hK K
  try simp only [Act.put, List.setIfInBounds_toArray, List.set_cons_zero, List.set_cons_succ]
  refine h_step 4 rfl (by kernel_rfl) (by kernel_rfl) (fun K hK => ?_)
  go_simp
  refine (C8.out _ _ _ _ (by simp)).mono ?_
  rintro e w' ⟨rfl, rfl⟩
  go_wp2_with fail
  refine hK.out _ _ ?_ (fun hHeld => ?_)
  · (try dsimp only); exact hHeld
  clear hK K
  try simp only [Act.put, List.setIfInBounds_toArray, List.set_cons_zero, List.set_cons_succ]
  refine h_yes 5 97 (v := ?_) rfl rfl (by kernel_rfl) (by kernel_rfl) (by kernel_rfl) (fun _ _ _ h => h) (by kernel_rfl) (by assumption) ?_ ?_
  rotate_left 1
  · (intro w hSw; (try dsimp only at hSw); go_simp; try with_reducible rfl)
  try simp only [Act.put, List.setIfInBounds_toArray, List.set_cons_zero, List.set_cons_succ]
  refine h_yes 6 98 (v := ?_) rfl rfl (by kernel_rfl) (by kernel_rfl) (by kernel_rfl) (fun _ _ _ h => h) (by kernel_rfl) (by assumption) ?_ ?_
  rotate_left 1
  · (intro w hSw; (try dsimp only at hSw); go_simp; try with_reducible rfl)
  try simp only [Act.put, List.setIfInBounds_toArray, List.set_cons_zero, List.set_cons_succ]
  refine h_yes 7 99 (v := ?_) rfl rfl (by kernel_rfl) (by kernel_rfl) (by kernel_rfl) (fun _ _ _ h => h) (by kernel_rfl) (by assumption) ?_ ?_
  rotate_left 1
  · (intro w hSw; (try dsimp only at hSw); go_simp; try with_reducible rfl)
  try simp only [Act.put, List.setIfInBounds_toArray, List.set_cons_zero, List.set_cons_succ]
  refine h_yes 8 100 (v := ?_) rfl rfl (by kernel_rfl) (by kernel_rfl) (by kernel_rfl) (fun _ _ _ h => h) (by kernel_rfl) (by assumption) ?_ ?_
  rotate_left 1
  · (intro w hSw; (try dsimp only at hSw); go_simp; try with_reducible rfl)
  try simp only [Act.put, List.setIfInBounds_toArray, List.set_cons_zero, List.set_cons_succ]
  refine h_yes 9 101 (v := ?_) rfl rfl (by kernel_rfl) (by kernel_rfl) (by kernel_rfl) (fun _ _ _ h => h) (by kernel_rfl) (by assumption) ?_ ?_
  rotate_left 1
  · (intro w hSw; (try dsimp only at hSw); go_simp; try with_reducible rfl)
  try simp only [Act.put, List.setIfInBounds_toArray, List.set_cons_zero, List.set_cons_succ]
  refine h_yes 10 102 (v := ?_) rfl rfl (by kernel_rfl) (by kernel_rfl) (by kernel_rfl) (fun _ _ _ h => h) (by kernel_rfl) (by assumption) ?_ ?_
  rotate_left 1
  · (intro w hSw; (try dsimp only at hSw); go_simp; try with_reducible rfl)
  try simp only [Act.put, List.setIfInBounds_toArray, List.set_cons_zero, List.set_cons_succ]
  refine h_yes 11 103 (v := ?_) rfl rfl (by kernel_rfl) (by kernel_rfl) (by kernel_rfl) (fun _ _ _ h => h) (by kernel_rfl) (by assumption) ?_ ?_
  rotate_left 1
  · (intro w hSw; (try dsimp only at hSw); go_simp; try with_reducible rfl)
  try simp only [Act.put, List.setIfInBounds_toArray, List.set_cons_zero, List.set_cons_succ]
  refine h_yes 12 104 (v := ?_) rfl rfl (by kernel_rfl) (by kernel_rfl) (by kernel_rfl) (fun _ _ _ h => h) (by kernel_rfl) (by assumption) ?_ ?_
  rotate_left 1
  · (intro w hSw; (try dsimp only at hSw); go_simp; try with_reducible rfl)
  try simp only [Act.put, List.setIfInBounds_toArray, List.set_cons_zero, List.set_cons_succ]
  refine h_yes 13 105 (v := ?_) rfl rfl (by kernel_rfl) (by kernel_rfl) (by kernel_rfl) (fun _ _ _ h => h) (by kernel_rfl) (by assumption) ?_ ?_
  rotate_left 1
  · (intro w hSw; (try dsimp only at hSw); go_simp; try with_reducible rfl)
  try simp only [Act.put, List.setIfInBounds_toArray, List.set_cons_zero, List.set_cons_succ]
  refine h_yes 14 106 (v := ?_) rfl rfl (by kernel_rfl) (by kernel_rfl) (by kernel_rfl) (fun _ _ _ h => h) (by kernel_rfl) (by assumption) ?_ ?_
  rotate_left 1
  · (intro w hSw; (try dsimp only at hSw); go_simp; try with_reducible rfl)
  try simp only [Act.put, List.setIfInBounds_toArray, List.set_cons_zero, List.set_cons_succ]
  refine h_yes 15 107 (v := ?_) rfl rfl (by kernel_rfl) (by kernel_rfl) (by kernel_rfl) (fun _ _ _ h => h) (by kernel_rfl) (by assumption) ?_ ?_
  rotate_left 1
  · (intro w hSw; (try dsimp only at hSw); go_simp; try with_reducible rfl)
  try simp only [Act.put, List.setIfInBounds_toArray, List.set_cons_zero, List.set_cons_succ]
  refine h_yes 16 108 (v := ?_) rfl rfl (by kernel_rfl) (by kernel_rfl) (by kernel_rfl) (fun _ _ _ h => h) (by kernel_rfl) (by assumption) ?_ ?_
  rotate_left 1
  · (intro w hSw; (try dsimp only at hSw); go_simp; try with_reducible rfl)
  try simp only [Act.put, List.setIfInBounds_toArray, List.set_cons_zero, List.set_cons_succ]
  refine h_yes 17 109 (v := ?_) rfl rfl (by kernel_rfl) (by kernel_rfl) (by kernel_rfl) (fun _ _ _ h => h) (by kernel_rfl) (by assumption) ?_ ?_
  rotate_left 1
  · (intro w hSw; (try dsimp only at hSw); go_simp; try with_reducible rfl)
  try simp only [Act.put, List.setIfInBounds_toArray, List.set_cons_zero, List.set_cons_succ]
  refine h_yes 18 110 (v := ?_) rfl rfl (by kernel_rfl) (by kernel_rfl) (by kernel_rfl) (fun _ _ _ h => h) (by kernel_rfl) (by assumption) ?_ ?_
  rotate_left 1
  · (intro w hSw; (try dsimp only at hSw); go_simp; try with_reducible rfl)
  try simp only [Act.put, List.setIfInBounds_toArray, List.set_cons_zero, List.set_cons_succ]
  refine h_no 19 111 rfl rfl (by kernel_rfl) (by kernel_rfl) (by kernel_rfl) (fun _ _ _ h => h) (by kernel_rfl) (by assumption) ?_
  try simp only [Act.put, List.setIfInBounds_toArray, List.set_cons_zero, List.set_cons_succ]
  refine h_no 20 112 rfl rfl (by kernel_rfl) (by kernel_rfl) (by kernel_rfl) (fun _ _ _ h => h) (by kernel_rfl) (by assumption) ?_
  try simp only [Act.put, List.setIfInBounds_toArray, List.set_cons_zero, List.set_cons_succ]
  refine h_no 21 113 rfl rfl (by kernel_rfl) (by kernel_rfl) (by kernel_rfl) (fun _ _ _ h => h) (by kernel_rfl) (by assumption) ?_
  try simp only [Act.put, List.setIfInBounds_toArray, List.set_cons_zero, List.set_cons_succ]
  refine h_no 22 114 rfl rfl (by kernel_rfl) (by kernel_rfl) (by kernel_rfl) (fun _ _ _ h => h) (by kernel_rfl) (by assumption) ?_
  try simp only [Act.put, List.setIfInBounds_toArray, List.set_cons_zero, List.set_cons_succ]
  refine h_no 23 115 rfl rfl (by kernel_rfl) (by kernel_rfl) (by kernel_rfl) (fun _ _ _ h => h) (by kernel_rfl) (by assumption) ?_
  try simp only [Act.put, List.setIfInBounds_toArray, List.set_cons_zero, List.set_cons_succ]
  refine h_yes 24 116 (v := ?_) rfl rfl (by kernel_rfl) (by kernel_rfl) (by kernel_rfl) (fun _ _ _ h => h) (by kernel_rfl) (by assumption) ?_ ?_
  rotate_left 1
  · (intro w hSw; (try dsimp only at hSw); go_simp; try with_reducible rfl)
  try simp only [Act.put, List.setIfInBounds_toArray, List.set_cons_zero, List.set_cons_succ]
  refine h_yes 25 117 (v := ?_) rfl rfl (by kernel_rfl) (by kernel_rfl) (by kernel_rfl) (fun _ _ _ h => h) (by kernel_rfl) (by assumption) ?_ ?_
  rotate_left 1
  · (intro w hSw; (try dsimp only at hSw); go_simp; try with_reducible rfl)
  try simp only [Act.put, List.setIfInBounds_toArray, List.set_cons_zero, List.set_cons_succ]
  refine wpAnyH_done (by kernel_rfl) ?_ _
  refine NoPanic.normal ?_
  obtain ⟨-, -, b2, b3, b4, b5⟩ := hHeld
  have hx2 := hz3p
  clear hB hC
  go_wp2_with fail
  refine (C5.out _).mono ?_
  rintro e w8 ⟨rfl, hw8⟩
  have a2 := (bcell hw8).1 _ 0 (Nat.lt_trans hz3 b5)
  have a3 := (bcell hw8).1 _ 1 (Nat.lt_trans hz3 b5)
  rw [b2] at a2
  rw [b3] at a3
  have a4 := below_two b4 hw8
  have a5 := Nat.lt_of_lt_of_le b5 hw8.size
  clear hw8 b2 b3 b4 b5
  obtain ⟨b2, b3, b4, b5⟩ := And.intro a2 (And.intro a3 (And.intro a4 a5))
  clear a2 a3 a4 a5
  go_wp2_with fail
  refine (C10.out _).mono ?_
  rintro e w9 ⟨rfl, hw9⟩
  have a2 := (bcell hw9).1 _ 0 (Nat.lt_trans hz3 b5)
  have a3 := (bcell hw9).1 _ 1 (Nat.lt_trans hz3 b5)
  rw [b2] at a2
  rw [b3] at a3
  have a4 := below_two b4 hw9
  have a5 := Nat.lt_of_lt_of_le b5 hw9.size
  clear hw9 b2 b3 b4 b5
  obtain ⟨b2, b3, b4, b5⟩ := And.intro a2 (And.intro a3 (And.intro a4 a5))
  clear a2 a3 a4 a5
  go_wp2
  go_ret
  exact ⟨rfl, b4⟩

set_option maxRecDepth 100000 in
set_option maxHeartbeats 1000000 in
theorem kwords_isnt_unsound (k : Int) (xn : Bool) (x n : Int) (h1 : -9223372036854775808 ≤ k) (h2 : k ≤ 9223372036854775807) (x0 : 0 ≤ x) (x1 : x ≤ 18446744073709551615) (n0 : 0 ≤ n) (n1 : n ≤ 18446744073709551615) (w : World) (htab : Lib.TabIs Tryd.prog w "internal/strconv.uint64pow10" .u64 Lib.pow10Tab)
    (hk : isW k = true) (hs : sound xn x = false) (hf : ¬ checkW k [n] = 0) :
    Calls Tryd.prog 4 #[.int .i64 k, .agg #[.bool xn, .int .u64 x], .int .u64 n] w fun e w' => e = .returned (.bool true) ∧ Below w.heap.size w w' := by
  have fe : kFitErr k xn x = 1 := by simp [kFitErr, hk, hs]
  have c1 := fun w => kfits_any k x xn w h1 h2 x0 x1
  rw [fe] at c1
  rw [show resW 1 (wordOf xn x) = 0 by simp [resW]] at c1
  have c2 := fun w => kof_any k n w h1 h2 n0 n1
  rw [show (decide (checkW k [n] = 0) && ofNeg k n) = false by simp [hf], show resW (checkW k [n]) (ofN k n) = 0 by simp [resW, hf]] at c2
  have c3 := fun w => ktext_any xn x w x0 x1
  rw [hs] at c3
  rw [show txtK xn x = [] by simp [txtK, hs]] at c3
  have c5 := fun w => rconst_any xn x w
  rw [hs] at c5
  have c8 := fun b o c w h => rbad1 k n b o c w h1 h2 n0 n1 h
  rw [rBad1_eq k n n0 n1] at c8
  have d1 : (checkW k [n] != 0) = true := by simp [hf]
  have d2 : (checkW k [n] == 0) = false := by simp [hf]
  have c7 := fun w => rwhole_any k w
  rw [hk] at c7
  have C1 := Lib.hid c1
  have C2 := Lib.hid c2
  have C3 := Lib.hid c3
  have C5 := Lib.hid c5
  have C7 := Lib.hid c7
  have C8 := Lib.hid c8
  clear c1 c2 c3 c5 c7 c8 fe hs hk hf
  generalize checkW k [n] = cw at *
  go_enter Tryd.func4, Tryd.ntmps4
  go_wp2_with fail
  refine (C1.out _).mono ?_
  rintro e w' ⟨rfl, rfl⟩
  go_wp2_with fail
  refine (C2.out _).mono ?_
  rintro e w' ⟨rfl, rfl⟩
  go_wp2_with fail
  refine (C3.out _ (Lib.tabIs_alloc htab _)).mono ?_
  rintro e w1 ⟨rfl, hw1⟩
  have kx0 : w1.cell? ⟨w.heap.size, 0, none⟩ = some (.bool xn) := by rw [(bcell hw1).1 _ _ (by simp)]; simp [go_sem]
  have kx1 : w1.cell? ⟨w.heap.size, 1, none⟩ = some (.int .u64 x) := by rw [(bcell hw1).1 _ _ (by simp)]; simp [go_sem]
  have hz1 : w.heap.size < w1.heap.size := by have := hw1.size; simp at this; omega
  have hb1 : Below w.heap.size w w1 := below_two ((Below.refl _ _).alloc (Nat.le_refl _) _) hw1
  clear hw1 htab C1 C2 C3
  go_wp2_with fail
  refine (answers07 _).mono ?_
  rintro e w' ⟨rfl, rfl⟩
  go_wp2_with fail
  refine (C5.out _).mono ?_
  rintro e w2 ⟨rfl, hw2⟩
  have ky0 : w2.cell? ⟨w.heap.size, 0, none⟩ = some (.bool xn) := by rw [(bcell hw2).1 _ _ hz1, kx0]
  have ky1 : w2.cell? ⟨w.heap.size, 1, none⟩ = some (.int .u64 x) := by rw [(bcell hw2).1 _ _ hz1, kx1]
  have hz2 : w.heap.size < w2.heap.size := by have := hw2.size; omega
  have hb2 : Below w.heap.size w w2 := below_two hb1 hw2
  clear hw2 kx0 kx1 hz1 hb1
  go_wp2_with fail
  refine (C7.out _).mono ?_
  rintro e w' ⟨rfl, rfl⟩
  have hB := hb2.alloc hb2.size (.cells #[.bool false, .int .u64 0] 32)
  have hC := hB.alloc hB.size (.cells #[.int .u64 n] 22)
  have hz2p : w.heap.size < w2.heap.size + 1 := by omega
  go_wp2_with fail
  refine wp_region_noPanic ?_
  refine wp_region_held_drew (S := (fun w' => w'.cell? ⟨w2.heap.size, 0, none⟩ = some (.bool false) ∧ w'.cell? ⟨w2.heap.size, 1, none⟩ = some (.int .u64 0) ∧ w'.cell? ⟨w.heap.size, 0, none⟩ = some (.bool xn) ∧ w'.cell? ⟨w.heap.size, 1, none⟩ = some (.int .u64 x) ∧ Below w.heap.size w w' ∧ w2.heap.size < w'.heap.size)) (by kernel_rfl) ?_ (fun hHeld => ?_)
  · (try dsimp only); exact ⟨by simp, by simp, by simp [World.cell?_alloc_past, hz2, ky0], by simp [World.cell?_alloc_past, hz2, ky1], by first | exact hB | exact hB.drew, by simp⟩
  refine h_yes 0 92 (v := ?_) rfl rfl (by kernel_rfl) (by kernel_rfl) (by kernel_rfl) (fun _ _ _ h => h) (by kernel_rfl) (by assumption) ?_ ?_
  rotate_left 1
  · (intro w hSw; (try dsimp only at hSw); go_simp; try with_reducible rfl)
  try simp only [Act.put, List.setIfInBounds_toArray, List.set_cons_zero, List.set_cons_succ]
  refine h_yes 1 93 (v := ?_) rfl rfl (by kernel_rfl) (by kernel_rfl) (by kernel_rfl) (fun _ _ _ h => h) (by kernel_rfl) (by assumption) ?_ ?_
  rotate_left 1
  · (intro w hSw; (try dsimp only at hSw); go_simp; try with_reducible rfl)
  try simp only [Act.put, List.setIfInBounds_toArray, List.set_cons_zero, List.set_cons_succ]
  refine h_yes 2 94 (v := ?_) rfl rfl (by kernel_rfl) (by kernel_rfl) (by kernel_rfl) (fun _ _ _ h => h) (by kernel_rfl) (by assumption) ?_ ?_
  rotate_left 1
  · (intro w hSw; (try dsimp only at hSw); go_simp; try with_reducible rfl)
  try simp only [Act.put, List.setIfInBounds_toArray, List.set_cons_zero, List.set_cons_succ]
  refine h_step 3 rfl (by kernel_rfl) (by kernel_rfl) (fun K hK => ?_)
  go_simp
  refine hK.out _ _ ?_ (fun hHeld => ?_)
  · (try dsimp only); exact ⟨by simp [World.cell?_alloc_past], by simp [World.cell?_alloc_past], by simp [World.cell?_alloc_past, hz2, hz2p, ky0], by simp [World.cell?_alloc_past, hz2, hz2p, ky1], by first | exact hC.drew | exact hC, by simp; try omega⟩
  clear hK K
  try simp only [Act.put, List.setIfInBounds_toArray, List.set_cons_zero, List.set_cons_succ]
  refine h_step 4 rfl (by kernel_rfl) (by kernel_rfl) (fun K hK => ?_)
  go_simp
  refine (C8.out _ _ _ _ (by simp)).mono ?_
  rintro e w' ⟨rfl, rfl⟩
  go_wp2_with fail
  refine hK.out _ _ ?_ (fun hHeld => ?_)
  · (try dsimp only); exact hHeld
  clear hK K
  try simp only [Act.put, List.setIfInBounds_toArray, List.set_cons_zero, List.set_cons_succ]
  refine h_yes 5 97 (v := ?_) rfl rfl (by kernel_rfl) (by kernel_rfl) (by kernel_rfl) (fun _ _ _ h => h) (by kernel_rfl) (by assumption) ?_ ?_
  rotate_left 1
  · (intro w hSw; (try dsimp only at hSw); go_simp; try with_reducible rfl)
  try simp only [Act.put, List.setIfInBounds_toArray, List.set_cons_zero, List.set_cons_succ]
  refine h_yes 6 98 (v := ?_) rfl rfl (by kernel_rfl) (by kernel_rfl) (by kernel_rfl) (fun _ _ _ h => h) (by kernel_rfl) (by assumption) ?_ ?_
  rotate_left 1
  · (intro w hSw; (try dsimp only at hSw); go_simp; try with_reducible rfl)
  try simp only [Act.put, List.setIfInBounds_toArray, List.set_cons_zero, List.set_cons_succ]
  refine h_yes 7 99 (v := ?_) rfl rfl (by kernel_rfl) (by kernel_rfl) (by kernel_rfl) (fun _ _ _ h => h) (by kernel_rfl) (by assumption) ?_ ?_
  rotate_left 1
  · (intro w hSw; (try dsimp only at hSw); go_simp; try with_reducible rfl)
  try simp only [Act.put, List.setIfInBounds_toArray, List.set_cons_zero, List.set_cons_succ]
  refine h_yes 8 100 (v := ?_) rfl rfl (by kernel_rfl) (by kernel_rfl) (by kernel_rfl) (fun _ _ _ h => h) (by kernel_rfl) (by assumption) ?_ ?_
  rotate_left 1
  · (intro w hSw; (try dsimp only at hSw); go_simp; try with_reducible rfl)
  try simp only [Act.put, List.setIfInBounds_toArray, List.set_cons_zero, List.set_cons_succ]
  refine h_yes 9 101 (v := ?_) rfl rfl (by kernel_rfl) (by kernel_rfl) (by kernel_rfl) (fun _ _ _ h => h) (by kernel_rfl) (by assumption) ?_ ?_
  rotate_left 1
  · (intro w hSw; (try dsimp only at hSw); go_simp; try with_reducible rfl)
  try simp only [Act.put, List.setIfInBounds_toArray, List.set_cons_zero, List.set_cons_succ]
  refine h_yes 10 102 (v := ?_) rfl rfl (by kernel_rfl) (by kernel_rfl) (by kernel_rfl) (fun _ _ _ h => h) (by kernel_rfl) (by assumption) ?_ ?_
  rotate_left 1
  · (intro w hSw; (try dsimp only at hSw); go_simp; try with_reducible rfl)
  try simp only [Act.put, List.setIfInBounds_toArray, List.set_cons_zero, List.set_cons_succ]
  refine h_yes 11 103 (v := ?_) rfl rfl (by kernel_rfl) (by kernel_rfl) (by kernel_rfl) (fun _ _ _ h => h) (by kernel_rfl) (by assumption) ?_ ?_
  rotate_left 1
  · (intro w hSw; (try dsimp only at hSw); go_simp; try with_reducible rfl)
  try simp only [Act.put, List.setIfInBounds_toArray, List.set_cons_zero, List.set_cons_succ]
  refine h_yes 12 104 (v := ?_) rfl rfl (by kernel_rfl) (by kernel_rfl) (by kernel_rfl) (fun _ _ _ h => h) (by kernel_rfl) (by assumption) ?_ ?_
  rotate_left 1
  · (intro w hSw; (try dsimp only at hSw); go_simp; try with_reducible rfl)
  try simp only [Act.put, List.setIfInBounds_toArray, List.set_cons_zero, List.set_cons_succ]
  refine h_yes 13 105 (v := ?_) rfl rfl (by kernel_rfl) (by kernel_rfl) (by kernel_rfl) (fun _ _ _ h => h) (by kernel_rfl) (by assumption) ?_ ?_
  rotate_left 1
  · (intro w hSw; (try dsimp only at hSw); go_simp; try with_reducible rfl)
  try simp only [Act.put, List.setIfInBounds_toArray, List.set_cons_zero, List.set_cons_succ]
  refine h_yes 14 106 (v := ?_) rfl rfl (by kernel_rfl) (by kernel_rfl) (by kernel_rfl) (fun _ _ _ h => h) (by kernel_rfl) (by assumption) ?_ ?_
  rotate_left 1
  · (intro w hSw; (try dsimp only at hSw); go_simp; try with_reducible rfl)
  try simp only [Act.put, List.setIfInBounds_toArray, List.set_cons_zero, List.set_cons_succ]
  refine h_yes 15 107 (v := ?_) rfl rfl (by kernel_rfl) (by kernel_rfl) (by kernel_rfl) (fun _ _ _ h => h) (by kernel_rfl) (by assumption) ?_ ?_
  rotate_left 1
  · (intro w hSw; (try dsimp only at hSw); go_simp; try with_reducible rfl)
  try simp only [Act.put, List.setIfInBounds_toArray, List.set_cons_zero, List.set_cons_succ]
  refine h_yes 16 108 (v := ?_) rfl rfl (by kernel_rfl) (by kernel_rfl) (by kernel_rfl) (fun _ _ _ h => h) (by kernel_rfl) (by assumption) ?_ ?_
  rotate_left 1
  · (intro w hSw; (try dsimp only at hSw); go_simp; try with_reducible rfl)
  try simp only [Act.put, List.setIfInBounds_toArray, List.set_cons_zero, List.set_cons_succ]
  refine h_yes 17 109 (v := ?_) rfl rfl (by kernel_rfl) (by kernel_rfl) (by kernel_rfl) (fun _ _ _ h => h) (by kernel_rfl) (by assumption) ?_ ?_
  rotate_left 1
  · (intro w hSw; (try dsimp only at hSw); go_simp; try with_reducible rfl)
  try simp only [Act.put, List.setIfInBounds_toArray, List.set_cons_zero, List.set_cons_succ]
  refine h_yes 18 110 (v := ?_) rfl rfl (by kernel_rfl) (by kernel_rfl) (by kernel_rfl) (fun _ _ _ h => h) (by kernel_rfl) (by assumption) ?_ ?_
  rotate_left 1
  · (intro w hSw; (try dsimp only at hSw); go_simp; try with_reducible rfl)
  try simp only [Act.put, List.setIfInBounds_toArray, List.set_cons_zero, List.set_cons_succ]
  refine h_no 19 111 rfl rfl (by kernel_rfl) (by kernel_rfl) (by kernel_rfl) (fun _ _ _ h => h) (by kernel_rfl) (by assumption) ?_
  try simp only [Act.put, List.setIfInBounds_toArray, List.set_cons_zero, List.set_cons_succ]
  refine h_no 20 112 rfl rfl (by kernel_rfl) (by kernel_rfl) (by kernel_rfl) (fun _ _ _ h => h) (by kernel_rfl) (by assumption) ?_
  try simp only [Act.put, List.setIfInBounds_toArray, List.set_cons_zero, List.set_cons_succ]
  refine h_no 21 113 rfl rfl (by kernel_rfl) (by kernel_rfl) (by kernel_rfl) (fun _ _ _ h => h) (by kernel_rfl) (by assumption) ?_
  try simp only [Act.put, List.setIfInBounds_toArray, List.set_cons_zero, List.set_cons_succ]
  refine h_no 22 114 rfl rfl (by kernel_rfl) (by kernel_rfl) (by kernel_rfl) (fun _ _ _ h => h) (by kernel_rfl) (by assumption) ?_
  try simp only [Act.put, List.setIfInBounds_toArray, List.set_cons_zero, List.set_cons_succ]
  refine h_no 23 115 rfl rfl (by kernel_rfl) (by kernel_rfl) (by kernel_rfl) (fun _ _ _ h => h) (by kernel_rfl) (by assumption) ?_
  try simp only [Act.put, List.setIfInBounds_toArray, List.set_cons_zero, List.set_cons_succ]
  refine h_yes 24 116 (v := ?_) rfl rfl (by kernel_rfl) (by kernel_rfl) (by kernel_rfl) (fun _ _ _ h => h) (by kernel_rfl) (by assumption) ?_ ?_
  rotate_left 1
  · (intro w hSw; (try dsimp only at hSw); go_simp; try with_reducible rfl)
  try simp only [Act.put, List.setIfInBounds_toArray, List.set_cons_zero, List.set_cons_succ]
  refine h_yes 25 117 (v := ?_) rfl rfl (by kernel_rfl) (by kernel_rfl) (by kernel_rfl) (fun _ _ _ h => h) (by kernel_rfl) (by assumption) ?_ ?_
  rotate_left 1
  · (intro w hSw; (try dsimp only at hSw); go_simp; try with_reducible rfl)
  try simp only [Act.put, List.setIfInBounds_toArray, List.set_cons_zero, List.set_cons_succ]
  refine wpAnyH_done (by kernel_rfl) ?_ _
  refine NoPanic.normal ?_
  obtain ⟨-, -, b2, b3, b4, b5⟩ := hHeld
  have hx2 := hz2p
  clear hB hC
  go_wp2_with fail
  refine (C5.out _).mono ?_
  rintro e w8 ⟨rfl, hw8⟩
  have a2 := (bcell hw8).1 _ 0 (Nat.lt_trans hz2 b5)
  have a3 := (bcell hw8).1 _ 1 (Nat.lt_trans hz2 b5)
  rw [b2] at a2
  rw [b3] at a3
  have a4 := below_two b4 hw8
  have a5 := Nat.lt_of_lt_of_le b5 hw8.size
  clear hw8 b2 b3 b4 b5
  obtain ⟨b2, b3, b4, b5⟩ := And.intro a2 (And.intro a3 (And.intro a4 a5))
  clear a2 a3 a4 a5
  go_wp2
  go_ret
  exact ⟨rfl, b4⟩

theorem walkKonstWords (k : Int) (xn : Bool) (x n : Int) (h1 : -9223372036854775808 ≤ k) (h2 : k ≤ 9223372036854775807) (x0 : 0 ≤ x) (x1 : x ≤ 18446744073709551615) (n0 : 0 ≤ n) (n1 : n ≤ 18446744073709551615) (w : World) (htab : Lib.TabIs Tryd.prog w "internal/strconv.uint64pow10" .u64 Lib.pow10Tab) :
    Calls Tryd.prog 4 #[.int .i64 k, .agg #[.bool xn, .int .u64 x], .int .u64 n] w fun e w' => e = .returned (.bool true) ∧ Below w.heap.size w w' := by
  cases hk : isW k
  · cases hs : sound xn x
    · exact kwords_none_not k xn x n h1 h2 x0 x1 n0 n1 w htab hk hs
    · exact kwords_none_sound k xn x n h1 h2 x0 x1 n0 n1 w htab hk hs
  · by_cases hf : checkW k [n] = 0
    · cases hs : sound xn x
      · exact kwords_is_unsound k xn x n h1 h2 x0 x1 n0 n1 w htab hk hs hf
      · cases hi : fitsK k xn x
        · exact kwords_is_out k xn x n h1 h2 x0 x1 n0 n1 w htab hk hs hf hi
        · exact kwords_is_in k xn x n h1 h2 x0 x1 n0 n1 w htab hk hs hf hi
    · cases hs : sound xn x
      · exact kwords_isnt_unsound k xn x n h1 h2 x0 x1 n0 n1 w htab hk hs hf
      · cases hi : fitsK k xn x
        · exact kwords_isnt_out k xn x n h1 h2 x0 x1 n0 n1 w htab hk hs hf hi
        · exact kwords_isnt_in k xn x n h1 h2 x0 x1 n0 n1 w htab hk hs hf hi
end Go.Proofs.YtgjfdclmoeellaaDoor
