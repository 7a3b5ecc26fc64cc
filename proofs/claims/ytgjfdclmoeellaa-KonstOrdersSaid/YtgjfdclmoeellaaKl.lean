/- The walks of the laws KonstRing, KonstOrders and KonstDivides: each returns true for every input within the range of its types. -/
import Derived.Test.YtgjfdclmoeellaaPm
import Derived.Test.YtgjfdclmoeellaaKk
namespace Go.Proofs.Ytgjfdclmoeellaa
open Go.RowKit
set_option linter.unusedSimpArgs false
set_option linter.unusedVariables false

set_option maxRecDepth 100000 in
set_option maxHeartbeats 4000000 in
theorem walkKonstOrders (xn : Bool) (x : Int) (yn : Bool) (y : Int) (x0 : 0 ≤ x) (x1 : x ≤ 18446744073709551615) (y0 : 0 ≤ y) (y1 : y ≤ 18446744073709551615) (w : World) :
    Calls Try.prog 14 #[.agg #[.bool xn, .int .u64 x], .agg #[.bool yn, .int .u64 y]] w fun e w' => e = .returned (.bool true) ∧ Below w.heap.size w w' := by
  cases hx : sound xn x
  · go_enter Try.func14, Try.ntmps14
    go_wp2_with (first | (go_at_call 36; refine (answers07 _).mono ?_; rintro e w' ⟨rfl, rfl⟩))
    refine (rconst_any _ _ _).mono ?_
    rintro e w1 ⟨rfl, hw1⟩
    go_wp2_with (first | (go_at_call 36; refine (answers07 _).mono ?_; rintro e w' ⟨rfl, rfl⟩))
    go_ret; exact ⟨rfl, (by repeat' (first | with_reducible assumption | with_reducible exact Below.refl _ _ | with_reducible refine Below.setCell ?_ ?_ _ | with_reducible refine Below.alloc ?_ ?_ _ | with_reducible refine Below.drew ?_ | with_reducible refine below_dn ?_ _ | refine below_two ?_ (by assumption) | omega | (simp; omega) | (simp; done)))⟩
  cases hy : sound yn y
  · go_enter Try.func14, Try.ntmps14
    go_wp2_with (first | (go_at_call 36; refine (answers07 _).mono ?_; rintro e w' ⟨rfl, rfl⟩))
    refine (rconst_any _ _ _).mono ?_
    rintro e w1 ⟨rfl, hw1⟩
    obtain ⟨hc1, hf1⟩ := bcell hw1
    have hz1 : w.heap.size + 1 < w1.heap.size := by have := hw1.size; simp at this; omega
    have hx1 : w.heap.size < w1.heap.size := by omega
    go_wp2_with fail
    refine (rconst_any _ _ _).mono ?_
    rintro e w2 ⟨rfl, hw2⟩
    go_wp2_with (first | (go_at_call 36; refine (answers07 _).mono ?_; rintro e w' ⟨rfl, rfl⟩))
    go_ret; exact ⟨rfl, (by repeat' (first | with_reducible assumption | with_reducible exact Below.refl _ _ | with_reducible refine Below.setCell ?_ ?_ _ | with_reducible refine Below.alloc ?_ ?_ _ | with_reducible refine Below.drew ?_ | with_reducible refine below_dn ?_ _ | refine below_two ?_ (by assumption) | omega | (simp; omega) | (simp; done)))⟩
  obtain ⟨neg, n, h, e1, ec, e2, e3, e4, e5⟩ := korders xn yn x y hx hy x0 x1 y0 y1
  have ec1 := ec 1 (by simp)
  have ec3 := ec 3 (by simp)
  have ec5 := ec 5 (by simp)
  have c1 : cmpCode ⟨#[60]⟩ = 3 := by simp [cmpCode]
  have c2 : cmpCode ⟨#[61, 61]⟩ = 1 := by simp [cmpCode]
  have c3 : cmpCode ⟨#[62]⟩ = 5 := by simp [cmpCode]
  have o1 : opCode ⟨#[45]⟩ = 2 := by simp [opCode]
  have tri : (kval xn x < kval yn y ∨ kval xn x = kval yn y) ∨ kval yn y < kval xn x := by omega
  by_cases hh : h = 0
  · subst hh
    obtain ⟨e6, e7⟩ := e5 rfl
    clear ec e5
    rcases tri with (t1 | t1) | t1
    · have d1 : decide (kval xn x < kval yn y) = true := by simp [t1]
      have d2 : decide (kval xn x = kval yn y) = false := by simp; omega
      have d3 : decide (kval yn y < kval xn x) = false := by simp; omega
      rw [d1] at e2 e6
      rw [d2] at e3 e7
      rw [d3] at e4
      have g1 : neg = false := by cases neg; rfl; simp at e6
      subst g1
      have g2 : decide (0 < n) = true := by simpa using e6.symm
      have g3 : (n == 0) = false := e7.symm
      clear t1 d1 d2 d3 e6 e7
      go_enter Try.func14, Try.ntmps14
      go_wp2_with (first | (go_at_call 36; refine (answers07 _).mono ?_; rintro e w' ⟨rfl, rfl⟩))
      refine (rconst_any _ _ _).mono ?_
      rintro e w1 ⟨rfl, hw1⟩
      obtain ⟨hc1, hf1⟩ := bcell hw1
      have hz1 : w.heap.size + 1 < w1.heap.size := by have := hw1.size; simp at this; omega
      have hx1 : w.heap.size < w1.heap.size := by omega
      go_wp2_with fail
      refine (rconst_any _ _ _).mono ?_
      rintro e w2 ⟨rfl, hw2⟩
      obtain ⟨hc2, hf2⟩ := bcell hw2
      have hz2 : w.heap.size + 1 < w2.heap.size := by have := hw2.size; omega
      have hx2 : w.heap.size < w2.heap.size := by omega
      go_wp2_with (first | (go_at_call 40; refine (kcompare_any _ _ _ _ _ _ (by omega) (by omega) (by omega) (by omega)).mono ?_; rintro e w' ⟨rfl, rfl⟩) | (go_at_call 34; refine (kfold_any _ _ _ _ _ _ (by omega) (by omega) (by omega) (by omega)).mono ?_; rintro e w' ⟨rfl, rfl⟩) | (go_at_call 39; refine (kunary_any _ _ _ _ (by omega) (by omega)).mono ?_; rintro e w' ⟨rfl, rfl⟩))
      go_ret; exact ⟨rfl, (by repeat' (first | with_reducible assumption | with_reducible exact Below.refl _ _ | with_reducible refine Below.setCell ?_ ?_ _ | with_reducible refine Below.alloc ?_ ?_ _ | with_reducible refine Below.drew ?_ | with_reducible refine below_dn ?_ _ | refine below_two ?_ (by assumption) | omega | (simp; omega) | (simp; done)))⟩
    · have d1 : decide (kval xn x < kval yn y) = false := by simp; omega
      have d2 : decide (kval xn x = kval yn y) = true := by simp [t1]
      have d3 : decide (kval yn y < kval xn x) = false := by simp; omega
      rw [d1] at e2 e6
      rw [d2] at e3 e7
      rw [d3] at e4
      have g3 : n = 0 := by simpa using e7.symm
      subst g3
      clear t1 d1 d2 d3 e6 e7
      cases neg
      all_goals
        go_enter Try.func14, Try.ntmps14
        go_wp2_with (first | (go_at_call 36; refine (answers07 _).mono ?_; rintro e w' ⟨rfl, rfl⟩))
        refine (rconst_any _ _ _).mono ?_
        rintro e w1 ⟨rfl, hw1⟩
        obtain ⟨hc1, hf1⟩ := bcell hw1
        have hz1 : w.heap.size + 1 < w1.heap.size := by have := hw1.size; simp at this; omega
        have hx1 : w.heap.size < w1.heap.size := by omega
        go_wp2_with fail
        refine (rconst_any _ _ _).mono ?_
        rintro e w2 ⟨rfl, hw2⟩
        obtain ⟨hc2, hf2⟩ := bcell hw2
        have hz2 : w.heap.size + 1 < w2.heap.size := by have := hw2.size; omega
        have hx2 : w.heap.size < w2.heap.size := by omega
        go_wp2_with (first | (go_at_call 40; refine (kcompare_any _ _ _ _ _ _ (by omega) (by omega) (by omega) (by omega)).mono ?_; rintro e w' ⟨rfl, rfl⟩) | (go_at_call 34; refine (kfold_any _ _ _ _ _ _ (by omega) (by omega) (by omega) (by omega)).mono ?_; rintro e w' ⟨rfl, rfl⟩) | (go_at_call 39; refine (kunary_any _ _ _ _ (by omega) (by omega)).mono ?_; rintro e w' ⟨rfl, rfl⟩))
        go_ret; exact ⟨rfl, (by repeat' (first | with_reducible assumption | with_reducible exact Below.refl _ _ | with_reducible refine Below.setCell ?_ ?_ _ | with_reducible refine Below.alloc ?_ ?_ _ | with_reducible refine Below.drew ?_ | with_reducible refine below_dn ?_ _ | refine below_two ?_ (by assumption) | omega | (simp; omega) | (simp; done)))⟩
    · have d1 : decide (kval xn x < kval yn y) = false := by simp; omega
      have d2 : decide (kval xn x = kval yn y) = false := by simp; omega
      have d3 : decide (kval yn y < kval xn x) = true := by simp [t1]
      rw [d1] at e2 e6
      rw [d2] at e3 e7
      rw [d3] at e4
      have g3 : (n == 0) = false := e7.symm
      clear t1 d1 d2 d3 e7
      cases neg
      · have g2 : decide (0 < n) = false := by simpa using e6.symm
        clear e6
        go_enter Try.func14, Try.ntmps14
        go_wp2_with (first | (go_at_call 36; refine (answers07 _).mono ?_; rintro e w' ⟨rfl, rfl⟩))
        refine (rconst_any _ _ _).mono ?_
        rintro e w1 ⟨rfl, hw1⟩
        obtain ⟨hc1, hf1⟩ := bcell hw1
        have hz1 : w.heap.size + 1 < w1.heap.size := by have := hw1.size; simp at this; omega
        have hx1 : w.heap.size < w1.heap.size := by omega
        go_wp2_with fail
        refine (rconst_any _ _ _).mono ?_
        rintro e w2 ⟨rfl, hw2⟩
        obtain ⟨hc2, hf2⟩ := bcell hw2
        have hz2 : w.heap.size + 1 < w2.heap.size := by have := hw2.size; omega
        have hx2 : w.heap.size < w2.heap.size := by omega
        go_wp2_with (first | (go_at_call 40; refine (kcompare_any _ _ _ _ _ _ (by omega) (by omega) (by omega) (by omega)).mono ?_; rintro e w' ⟨rfl, rfl⟩) | (go_at_call 34; refine (kfold_any _ _ _ _ _ _ (by omega) (by omega) (by omega) (by omega)).mono ?_; rintro e w' ⟨rfl, rfl⟩) | (go_at_call 39; refine (kunary_any _ _ _ _ (by omega) (by omega)).mono ?_; rintro e w' ⟨rfl, rfl⟩))
        go_ret; exact ⟨rfl, (by repeat' (first | with_reducible assumption | with_reducible exact Below.refl _ _ | with_reducible refine Below.setCell ?_ ?_ _ | with_reducible refine Below.alloc ?_ ?_ _ | with_reducible refine Below.drew ?_ | with_reducible refine below_dn ?_ _ | refine below_two ?_ (by assumption) | omega | (simp; omega) | (simp; done)))⟩
      · clear e6
        go_enter Try.func14, Try.ntmps14
        go_wp2_with (first | (go_at_call 36; refine (answers07 _).mono ?_; rintro e w' ⟨rfl, rfl⟩))
        refine (rconst_any _ _ _).mono ?_
        rintro e w1 ⟨rfl, hw1⟩
        obtain ⟨hc1, hf1⟩ := bcell hw1
        have hz1 : w.heap.size + 1 < w1.heap.size := by have := hw1.size; simp at this; omega
        have hx1 : w.heap.size < w1.heap.size := by omega
        go_wp2_with fail
        refine (rconst_any _ _ _).mono ?_
        rintro e w2 ⟨rfl, hw2⟩
        obtain ⟨hc2, hf2⟩ := bcell hw2
        have hz2 : w.heap.size + 1 < w2.heap.size := by have := hw2.size; omega
        have hx2 : w.heap.size < w2.heap.size := by omega
        go_wp2_with (first | (go_at_call 40; refine (kcompare_any _ _ _ _ _ _ (by omega) (by omega) (by omega) (by omega)).mono ?_; rintro e w' ⟨rfl, rfl⟩) | (go_at_call 34; refine (kfold_any _ _ _ _ _ _ (by omega) (by omega) (by omega) (by omega)).mono ?_; rintro e w' ⟨rfl, rfl⟩) | (go_at_call 39; refine (kunary_any _ _ _ _ (by omega) (by omega)).mono ?_; rintro e w' ⟨rfl, rfl⟩))
        go_ret; exact ⟨rfl, (by repeat' (first | with_reducible assumption | with_reducible exact Below.refl _ _ | with_reducible refine Below.setCell ?_ ?_ _ | with_reducible refine Below.alloc ?_ ?_ _ | with_reducible refine Below.drew ?_ | with_reducible refine below_dn ?_ _ | refine below_two ?_ (by assumption) | omega | (simp; omega) | (simp; done)))⟩
  · have hn : (h != 0) = true := by simp [hh]
    clear ec e5
    rcases tri with (t1 | t1) | t1
    · have d1 : decide (kval xn x < kval yn y) = true := by simp [t1]
      have d2 : decide (kval xn x = kval yn y) = false := by simp; omega
      have d3 : decide (kval yn y < kval xn x) = false := by simp; omega
      rw [d1] at e2
      rw [d2] at e3
      rw [d3] at e4
      clear t1 d1 d2 d3
      go_enter Try.func14, Try.ntmps14
      go_wp2_with (first | (go_at_call 36; refine (answers07 _).mono ?_; rintro e w' ⟨rfl, rfl⟩))
      refine (rconst_any _ _ _).mono ?_
      rintro e w1 ⟨rfl, hw1⟩
      obtain ⟨hc1, hf1⟩ := bcell hw1
      have hz1 : w.heap.size + 1 < w1.heap.size := by have := hw1.size; simp at this; omega
      have hx1 : w.heap.size < w1.heap.size := by omega
      go_wp2_with fail
      refine (rconst_any _ _ _).mono ?_
      rintro e w2 ⟨rfl, hw2⟩
      obtain ⟨hc2, hf2⟩ := bcell hw2
      have hz2 : w.heap.size + 1 < w2.heap.size := by have := hw2.size; omega
      have hx2 : w.heap.size < w2.heap.size := by omega
      go_wp2_with (first | (go_at_call 40; refine (kcompare_any _ _ _ _ _ _ (by omega) (by omega) (by omega) (by omega)).mono ?_; rintro e w' ⟨rfl, rfl⟩) | (go_at_call 34; refine (kfold_any _ _ _ _ _ _ (by omega) (by omega) (by omega) (by omega)).mono ?_; rintro e w' ⟨rfl, rfl⟩) | (go_at_call 39; refine (kunary_any _ _ _ _ (by omega) (by omega)).mono ?_; rintro e w' ⟨rfl, rfl⟩))
      go_ret; exact ⟨rfl, (by repeat' (first | with_reducible assumption | with_reducible exact Below.refl _ _ | with_reducible refine Below.setCell ?_ ?_ _ | with_reducible refine Below.alloc ?_ ?_ _ | with_reducible refine Below.drew ?_ | with_reducible refine below_dn ?_ _ | refine below_two ?_ (by assumption) | omega | (simp; omega) | (simp; done)))⟩
    · have d1 : decide (kval xn x < kval yn y) = false := by simp; omega
      have d2 : decide (kval xn x = kval yn y) = true := by simp [t1]
      have d3 : decide (kval yn y < kval xn x) = false := by simp; omega
      rw [d1] at e2
      rw [d2] at e3
      rw [d3] at e4
      clear t1 d1 d2 d3
      go_enter Try.func14, Try.ntmps14
      go_wp2_with (first | (go_at_call 36; refine (answers07 _).mono ?_; rintro e w' ⟨rfl, rfl⟩))
      refine (rconst_any _ _ _).mono ?_
      rintro e w1 ⟨rfl, hw1⟩
      obtain ⟨hc1, hf1⟩ := bcell hw1
      have hz1 : w.heap.size + 1 < w1.heap.size := by have := hw1.size; simp at this; omega
      have hx1 : w.heap.size < w1.heap.size := by omega
      go_wp2_with fail
      refine (rconst_any _ _ _).mono ?_
      rintro e w2 ⟨rfl, hw2⟩
      obtain ⟨hc2, hf2⟩ := bcell hw2
      have hz2 : w.heap.size + 1 < w2.heap.size := by have := hw2.size; omega
      have hx2 : w.heap.size < w2.heap.size := by omega
      go_wp2_with (first | (go_at_call 40; refine (kcompare_any _ _ _ _ _ _ (by omega) (by omega) (by omega) (by omega)).mono ?_; rintro e w' ⟨rfl, rfl⟩) | (go_at_call 34; refine (kfold_any _ _ _ _ _ _ (by omega) (by omega) (by omega) (by omega)).mono ?_; rintro e w' ⟨rfl, rfl⟩) | (go_at_call 39; refine (kunary_any _ _ _ _ (by omega) (by omega)).mono ?_; rintro e w' ⟨rfl, rfl⟩))
      go_ret; exact ⟨rfl, (by repeat' (first | with_reducible assumption | with_reducible exact Below.refl _ _ | with_reducible refine Below.setCell ?_ ?_ _ | with_reducible refine Below.alloc ?_ ?_ _ | with_reducible refine Below.drew ?_ | with_reducible refine below_dn ?_ _ | refine below_two ?_ (by assumption) | omega | (simp; omega) | (simp; done)))⟩
    · have d1 : decide (kval xn x < kval yn y) = false := by simp; omega
      have d2 : decide (kval xn x = kval yn y) = false := by simp; omega
      have d3 : decide (kval yn y < kval xn x) = true := by simp [t1]
      rw [d1] at e2
      rw [d2] at e3
      rw [d3] at e4
      clear t1 d1 d2 d3
      go_enter Try.func14, Try.ntmps14
      go_wp2_with (first | (go_at_call 36; refine (answers07 _).mono ?_; rintro e w' ⟨rfl, rfl⟩))
      refine (rconst_any _ _ _).mono ?_
      rintro e w1 ⟨rfl, hw1⟩
      obtain ⟨hc1, hf1⟩ := bcell hw1
      have hz1 : w.heap.size + 1 < w1.heap.size := by have := hw1.size; simp at this; omega
      have hx1 : w.heap.size < w1.heap.size := by omega
      go_wp2_with fail
      refine (rconst_any _ _ _).mono ?_
      rintro e w2 ⟨rfl, hw2⟩
      obtain ⟨hc2, hf2⟩ := bcell hw2
      have hz2 : w.heap.size + 1 < w2.heap.size := by have := hw2.size; omega
      have hx2 : w.heap.size < w2.heap.size := by omega
      go_wp2_with (first | (go_at_call 40; refine (kcompare_any _ _ _ _ _ _ (by omega) (by omega) (by omega) (by omega)).mono ?_; rintro e w' ⟨rfl, rfl⟩) | (go_at_call 34; refine (kfold_any _ _ _ _ _ _ (by omega) (by omega) (by omega) (by omega)).mono ?_; rintro e w' ⟨rfl, rfl⟩) | (go_at_call 39; refine (kunary_any _ _ _ _ (by omega) (by omega)).mono ?_; rintro e w' ⟨rfl, rfl⟩))
      go_ret; exact ⟨rfl, (by repeat' (first | with_reducible assumption | with_reducible exact Below.refl _ _ | with_reducible refine Below.setCell ?_ ?_ _ | with_reducible refine Below.alloc ?_ ?_ _ | with_reducible refine Below.drew ?_ | with_reducible refine below_dn ?_ _ | refine below_two ?_ (by assumption) | omega | (simp; omega) | (simp; done)))⟩
set_option maxRecDepth 100000 in
set_option maxHeartbeats 4000000 in
theorem walkKonstRing (xn : Bool) (x : Int) (yn : Bool) (y : Int) (x0 : 0 ≤ x) (x1 : x ≤ 18446744073709551615) (y0 : 0 ≤ y) (y1 : y ≤ 18446744073709551615) (w : World) :
    Calls Try.prog 13 #[.agg #[.bool xn, .int .u64 x], .agg #[.bool yn, .int .u64 y]] w fun e w' => e = .returned (.bool true) ∧ Below w.heap.size w w' := by
  cases hx : sound xn x
  · go_enter Try.func13, Try.ntmps13
    go_wp2_with (first | (go_at_call 36; refine (answers07 _).mono ?_; rintro e w' ⟨rfl, rfl⟩))
    refine (rconst_any _ _ _).mono ?_
    rintro e w1 ⟨rfl, hw1⟩
    go_wp2_with (first | (go_at_call 36; refine (answers07 _).mono ?_; rintro e w' ⟨rfl, rfl⟩))
    go_ret; exact ⟨rfl, (by repeat' (first | with_reducible assumption | with_reducible exact Below.refl _ _ | with_reducible refine Below.setCell ?_ ?_ _ | with_reducible refine Below.alloc ?_ ?_ _ | with_reducible refine Below.drew ?_ | with_reducible refine below_dn ?_ _ | refine below_two ?_ (by assumption) | omega | (simp; omega) | (simp; done)))⟩
  cases hy : sound yn y
  · go_enter Try.func13, Try.ntmps13
    go_wp2_with (first | (go_at_call 36; refine (answers07 _).mono ?_; rintro e w' ⟨rfl, rfl⟩))
    refine (rconst_any _ _ _).mono ?_
    rintro e w1 ⟨rfl, hw1⟩
    obtain ⟨hc1, hf1⟩ := bcell hw1
    have hz1 : w.heap.size + 1 < w1.heap.size := by have := hw1.size; simp at this; omega
    have hx1 : w.heap.size < w1.heap.size := by omega
    go_wp2_with fail
    refine (rconst_any _ _ _).mono ?_
    rintro e w2 ⟨rfl, hw2⟩
    go_wp2_with (first | (go_at_call 36; refine (answers07 _).mono ?_; rintro e w' ⟨rfl, rfl⟩))
    go_ret; exact ⟨rfl, (by repeat' (first | with_reducible assumption | with_reducible exact Below.refl _ _ | with_reducible refine Below.setCell ?_ ?_ _ | with_reducible refine Below.alloc ?_ ?_ _ | with_reducible refine Below.drew ?_ | with_reducible refine below_dn ?_ _ | refine below_two ?_ (by assumption) | omega | (simp; omega) | (simp; done)))⟩
  obtain ⟨an, a, e, pn, p, g, un, u, i, ⟨a0, a1⟩, ⟨u0, u1⟩, e1, e2, e3, e4, e5, e6, e7⟩ := kring xn yn x y hx hy x0 x1 y0 y1
  have o1 : opCode ⟨#[43]⟩ = 1 := by simp [opCode]
  have o2 : opCode ⟨#[45]⟩ = 2 := by simp [opCode]
  have o3 : opCode ⟨#[42]⟩ = 3 := by simp [opCode]
  have o4 : opCode ⟨#[94]⟩ = 8 := by simp [opCode]
  by_cases he : e = 0 <;> by_cases hi : i = 0
  · have e8 := e5 he
    have e9 := e7 hi
    subst he hi
    clear e5 e7
    go_enter Try.func13, Try.ntmps13
    go_wp2_with (first | (go_at_call 36; refine (answers07 _).mono ?_; rintro e w' ⟨rfl, rfl⟩))
    refine (rconst_any _ _ _).mono ?_
    rintro e w1 ⟨rfl, hw1⟩
    obtain ⟨hc1, hf1⟩ := bcell hw1
    have hz1 : w.heap.size + 1 < w1.heap.size := by have := hw1.size; simp at this; omega
    have hx1 : w.heap.size < w1.heap.size := by omega
    go_wp2_with fail
    refine (rconst_any _ _ _).mono ?_
    rintro e w2 ⟨rfl, hw2⟩
    obtain ⟨hc2, hf2⟩ := bcell hw2
    have hz2 : w.heap.size + 1 < w2.heap.size := by have := hw2.size; omega
    have hx2 : w.heap.size < w2.heap.size := by omega
    go_wp2_with (first | (go_at_call 40; refine (kcompare_any _ _ _ _ _ _ (by omega) (by omega) (by omega) (by omega)).mono ?_; rintro e w' ⟨rfl, rfl⟩) | (go_at_call 34; refine (kfold_any _ _ _ _ _ _ (by omega) (by omega) (by omega) (by omega)).mono ?_; rintro e w' ⟨rfl, rfl⟩) | (go_at_call 39; refine (kunary_any _ _ _ _ (by omega) (by omega)).mono ?_; rintro e w' ⟨rfl, rfl⟩))
    go_ret; exact ⟨rfl, (by repeat' (first | with_reducible assumption | with_reducible exact Below.refl _ _ | with_reducible refine Below.setCell ?_ ?_ _ | with_reducible refine Below.alloc ?_ ?_ _ | with_reducible refine Below.drew ?_ | with_reducible refine below_dn ?_ _ | refine below_two ?_ (by assumption) | omega | (simp; omega) | (simp; done)))⟩
  · have e8 := e5 he
    have hn : (i != 0) = true := by simp [hi]
    subst he
    clear e5 e7
    go_enter Try.func13, Try.ntmps13
    go_wp2_with (first | (go_at_call 36; refine (answers07 _).mono ?_; rintro e w' ⟨rfl, rfl⟩))
    refine (rconst_any _ _ _).mono ?_
    rintro e w1 ⟨rfl, hw1⟩
    obtain ⟨hc1, hf1⟩ := bcell hw1
    have hz1 : w.heap.size + 1 < w1.heap.size := by have := hw1.size; simp at this; omega
    have hx1 : w.heap.size < w1.heap.size := by omega
    go_wp2_with fail
    refine (rconst_any _ _ _).mono ?_
    rintro e w2 ⟨rfl, hw2⟩
    obtain ⟨hc2, hf2⟩ := bcell hw2
    have hz2 : w.heap.size + 1 < w2.heap.size := by have := hw2.size; omega
    have hx2 : w.heap.size < w2.heap.size := by omega
    go_wp2_with (first | (go_at_call 40; refine (kcompare_any _ _ _ _ _ _ (by omega) (by omega) (by omega) (by omega)).mono ?_; rintro e w' ⟨rfl, rfl⟩) | (go_at_call 34; refine (kfold_any _ _ _ _ _ _ (by omega) (by omega) (by omega) (by omega)).mono ?_; rintro e w' ⟨rfl, rfl⟩) | (go_at_call 39; refine (kunary_any _ _ _ _ (by omega) (by omega)).mono ?_; rintro e w' ⟨rfl, rfl⟩))
    go_ret; exact ⟨rfl, (by repeat' (first | with_reducible assumption | with_reducible exact Below.refl _ _ | with_reducible refine Below.setCell ?_ ?_ _ | with_reducible refine Below.alloc ?_ ?_ _ | with_reducible refine Below.drew ?_ | with_reducible refine below_dn ?_ _ | refine below_two ?_ (by assumption) | omega | (simp; omega) | (simp; done)))⟩
  · have e9 := e7 hi
    have hn : (e == 0) = false := by simp [he]
    subst hi
    clear e5 e7
    go_enter Try.func13, Try.ntmps13
    go_wp2_with (first | (go_at_call 36; refine (answers07 _).mono ?_; rintro e w' ⟨rfl, rfl⟩))
    refine (rconst_any _ _ _).mono ?_
    rintro e w1 ⟨rfl, hw1⟩
    obtain ⟨hc1, hf1⟩ := bcell hw1
    have hz1 : w.heap.size + 1 < w1.heap.size := by have := hw1.size; simp at this; omega
    have hx1 : w.heap.size < w1.heap.size := by omega
    go_wp2_with fail
    refine (rconst_any _ _ _).mono ?_
    rintro e w2 ⟨rfl, hw2⟩
    obtain ⟨hc2, hf2⟩ := bcell hw2
    have hz2 : w.heap.size + 1 < w2.heap.size := by have := hw2.size; omega
    have hx2 : w.heap.size < w2.heap.size := by omega
    go_wp2_with (first | (go_at_call 40; refine (kcompare_any _ _ _ _ _ _ (by omega) (by omega) (by omega) (by omega)).mono ?_; rintro e w' ⟨rfl, rfl⟩) | (go_at_call 34; refine (kfold_any _ _ _ _ _ _ (by omega) (by omega) (by omega) (by omega)).mono ?_; rintro e w' ⟨rfl, rfl⟩) | (go_at_call 39; refine (kunary_any _ _ _ _ (by omega) (by omega)).mono ?_; rintro e w' ⟨rfl, rfl⟩))
    go_ret; exact ⟨rfl, (by repeat' (first | with_reducible assumption | with_reducible exact Below.refl _ _ | with_reducible refine Below.setCell ?_ ?_ _ | with_reducible refine Below.alloc ?_ ?_ _ | with_reducible refine Below.drew ?_ | with_reducible refine below_dn ?_ _ | refine below_two ?_ (by assumption) | omega | (simp; omega) | (simp; done)))⟩
  · have hn : (e == 0) = false := by simp [he]
    have hn2 : (i != 0) = true := by simp [hi]
    clear e5 e7
    go_enter Try.func13, Try.ntmps13
    go_wp2_with (first | (go_at_call 36; refine (answers07 _).mono ?_; rintro e w' ⟨rfl, rfl⟩))
    refine (rconst_any _ _ _).mono ?_
    rintro e w1 ⟨rfl, hw1⟩
    obtain ⟨hc1, hf1⟩ := bcell hw1
    have hz1 : w.heap.size + 1 < w1.heap.size := by have := hw1.size; simp at this; omega
    have hx1 : w.heap.size < w1.heap.size := by omega
    go_wp2_with fail
    refine (rconst_any _ _ _).mono ?_
    rintro e w2 ⟨rfl, hw2⟩
    obtain ⟨hc2, hf2⟩ := bcell hw2
    have hz2 : w.heap.size + 1 < w2.heap.size := by have := hw2.size; omega
    have hx2 : w.heap.size < w2.heap.size := by omega
    go_wp2_with (first | (go_at_call 40; refine (kcompare_any _ _ _ _ _ _ (by omega) (by omega) (by omega) (by omega)).mono ?_; rintro e w' ⟨rfl, rfl⟩) | (go_at_call 34; refine (kfold_any _ _ _ _ _ _ (by omega) (by omega) (by omega) (by omega)).mono ?_; rintro e w' ⟨rfl, rfl⟩) | (go_at_call 39; refine (kunary_any _ _ _ _ (by omega) (by omega)).mono ?_; rintro e w' ⟨rfl, rfl⟩))
    go_ret; exact ⟨rfl, (by repeat' (first | with_reducible assumption | with_reducible exact Below.refl _ _ | with_reducible refine Below.setCell ?_ ?_ _ | with_reducible refine Below.alloc ?_ ?_ _ | with_reducible refine Below.drew ?_ | with_reducible refine below_dn ?_ _ | refine below_two ?_ (by assumption) | omega | (simp; omega) | (simp; done)))⟩
end Go.Proofs.Ytgjfdclmoeellaa
