/- The walk of the law KonstDivides: it returns true for every input within the range of its types. -/
import Derived.Test.YtgjfdclmoeellaaPm
import Derived.Test.YtgjfdclmoeellaaKk
namespace Go.Proofs.Ytgjfdclmoeellaa
open Go.RowKit
set_option linter.unusedSimpArgs false
set_option linter.unusedVariables false

set_option maxRecDepth 100000 in
set_option maxHeartbeats 4000000 in
theorem walkKonstDivides (xn : Bool) (x : Int) (yn : Bool) (y : Int) (n : Int) (x0 : 0 ≤ x) (x1 : x ≤ 18446744073709551615) (y0 : 0 ≤ y) (y1 : y ≤ 18446744073709551615) (n0 : 0 ≤ n) (n1 : n ≤ 255) (w : World) :
    Calls Try.prog 10 #[.agg #[.bool xn, .int .u64 x], .agg #[.bool yn, .int .u64 y], .int .u8 n] w fun e w' => e = .returned (.bool true) ∧ Below w.heap.size w w' := by
  cases hx : sound xn x
  · go_enter Try.func10, Try.ntmps10
    go_wp2_with (first | (go_at_call 36; refine (answers07 _).mono ?_; rintro e w' ⟨rfl, rfl⟩))
    refine (rconst_any _ _ _).mono ?_
    rintro e w1 ⟨rfl, hw1⟩
    go_wp2_with (first | (go_at_call 36; refine (answers07 _).mono ?_; rintro e w' ⟨rfl, rfl⟩))
    go_ret; exact ⟨rfl, (by repeat' (first | with_reducible assumption | with_reducible exact Below.refl _ _ | with_reducible refine Below.setCell ?_ ?_ _ | with_reducible refine Below.alloc ?_ ?_ _ | with_reducible refine Below.drew ?_ | with_reducible refine below_dn ?_ _ | refine below_two ?_ (by assumption) | omega | (simp; omega) | (simp; done)))⟩
  cases hy : sound yn y
  · go_enter Try.func10, Try.ntmps10
    go_wp2_with (first | (go_at_call 36; refine (answers07 _).mono ?_; rintro e w' ⟨rfl, rfl⟩))
    refine (rconst_any _ _ _).mono ?_
    rintro e w1 ⟨rfl, hw1⟩
    obtain ⟨hc1, hf1⟩ := bcell hw1
    have hz1 : w.heap.size + 1 < w1.heap.size := by have := hw1.size; simp at this; omega
    have hx1 : w.heap.size < w1.heap.size := by omega
    go_wp2_with fail
    refine (rconst_any _ _ _).mono ?_
    rintro e w2 ⟨rfl, hw2⟩
    go_wp2_with (first | (go_at_call 36; refine (answers07 _).mono ?_; rintro e w' ⟨rfl, rfl⟩))
    go_ret; exact ⟨rfl, (by repeat' (first | with_reducible assumption | with_reducible exact Below.refl _ _ | with_reducible refine Below.setCell ?_ ?_ _ | with_reducible refine Below.alloc ?_ ?_ _ | with_reducible refine Below.drew ?_ | with_reducible refine below_dn ?_ _ | refine below_two ?_ (by assumption) | omega | (simp; omega) | (simp; done)))⟩
  by_cases hz : y = 0
  · subst hz
    go_enter Try.func10, Try.ntmps10
    go_wp2_with (first | (go_at_call 36; refine (answers07 _).mono ?_; rintro e w' ⟨rfl, rfl⟩))
    refine (rconst_any _ _ _).mono ?_
    rintro e w1 ⟨rfl, hw1⟩
    obtain ⟨hc1, hf1⟩ := bcell hw1
    have hz1 : w.heap.size + 1 < w1.heap.size := by have := hw1.size; simp at this; omega
    have hx1 : w.heap.size < w1.heap.size := by omega
    go_wp2_with fail
    refine (rconst_any _ _ _).mono ?_
    rintro e w2 ⟨rfl, hw2⟩
    obtain ⟨hc2, hf2⟩ := bcell hw2
    have hz2 : w.heap.size + 1 < w2.heap.size := by have := hw2.size; omega
    have hx2 : w.heap.size < w2.heap.size := by omega
    go_wp2_with (first | (go_at_call 36; refine (answers07 _).mono ?_; rintro e w' ⟨rfl, rfl⟩))
    go_ret; exact ⟨rfl, (by repeat' (first | with_reducible assumption | with_reducible exact Below.refl _ _ | with_reducible refine Below.setCell ?_ ?_ _ | with_reducible refine Below.alloc ?_ ?_ _ | with_reducible refine Below.drew ?_ | with_reducible refine below_dn ?_ _ | refine below_two ?_ (by assumption) | omega | (simp; omega) | (simp; done)))⟩
  have hzb : (y == 0) = false := by simp [hz]
  have hk0 : 0 ≤ n % 63 := by omega
  have hk1 : n % 63 ≤ 62 := by omega
  obtain ⟨k, hk⟩ : ∃ k : Nat, n % 63 = (k : Int) := ⟨(n % 63).toNat, by omega⟩
  have hkk : k ≤ 62 := by omega
  obtain ⟨k1, k2⟩ := pow63 k hkk
  obtain ⟨qn, q, e, rn, r, pn, p, dn, d, un, u, h, l, ⟨q0, q1⟩, ⟨r0, r1⟩, ⟨p0, p1⟩, ⟨d0, d1⟩, ⟨u0, u1⟩, e1, e2, e3, e4, e5, e6, e7, e8, e9, e10⟩ := kdivides xn yn x y k hkk hx hy x0 x1 y0 y1 hz
  have o1 : opCode ⟨#[43]⟩ = 1 := by simp [opCode]
  have o2 : opCode ⟨#[45]⟩ = 2 := by simp [opCode]
  have o3 : opCode ⟨#[42]⟩ = 3 := by simp [opCode]
  have o4 : opCode ⟨#[47]⟩ = 4 := by simp [opCode]
  have o5 : opCode ⟨#[37]⟩ = 5 := by simp [opCode]
  have o6 : opCode ⟨#[60, 60]⟩ = 10 := by simp [opCode]
  have o7 : opCode ⟨#[62, 62]⟩ = 11 := by simp [opCode]
  have t1 : decide (y ≤ r) = false := by simp; omega
  have t1' : decide (r < y) = true := by simp; exact e3
  have t2 : decide (0 < r) = true → rn = xn := by simpa using e4
  clear e3 e4
  have key : ∀ (b1 b2 b3 : Bool), (e == 0) = b1 → (h == 0) = b2 → decide (0 < r) = b3 → Calls Try.prog 10 #[.agg #[.bool xn, .int .u64 x], .agg #[.bool yn, .int .u64 y], .int .u8 n] w fun e w' => e = .returned (.bool true) ∧ Below w.heap.size w w' := by
    intro b1 b2 b3 hb1 hb2 hb3
    rw [hb3] at t2
    cases b1 <;> cases b2 <;> cases b3
    all_goals
      first
        | have e5 := e5 (by simpa using hb1)
          have e6 := e6 (by simpa using hb1)
          have he : e = 0 := by simpa using hb1
          subst he
        | clear e5 e6
          have hbn : (e != 0) = true := by simpa using hb1
      first
        | have e10 := e10 (by simpa using hb2)
          obtain ⟨e11, e12⟩ := e10
          have e13 : decide (l < 2 ^ k) = true := by simpa using e12
          have hh : h = 0 := by simpa using hb2
          subst hh
          clear e9 e10
        | obtain ⟨e11, e12⟩ := e9 (by simpa using hb2)
          subst e11 e12
          clear e9 e10
      first
        | (replace t2 := t2 rfl; subst t2)
        | clear t2
      go_enter Try.func10, Try.ntmps10
      go_wp2_with (first | (go_at_call 36; refine (answers07 _).mono ?_; rintro e w' ⟨rfl, rfl⟩))
      refine (rconst_any _ _ _).mono ?_
      rintro e w1 ⟨rfl, hw1⟩
      obtain ⟨hc1, hf1⟩ := bcell hw1
      have hz1 : w.heap.size + 1 < w1.heap.size := by have := hw1.size; simp at this; omega
      have hx1 : w.heap.size < w1.heap.size := by omega
      go_wp2_with fail
      refine (rconst_any _ _ _).mono ?_
      rintro e w2 ⟨rfl, hw2⟩
      obtain ⟨hc2, hf2⟩ := bcell hw2
      have hz2 : w.heap.size + 1 < w2.heap.size := by have := hw2.size; omega
      have hx2 : w.heap.size < w2.heap.size := by omega
      go_wp2_with (first | (go_at_call 34; refine (kfold_any _ _ _ _ _ _ (by omega) (by omega) (by omega) (by omega)).mono ?_; rintro e w' ⟨rfl, rfl⟩))
      go_ret; exact ⟨rfl, (by repeat' (first | with_reducible assumption | with_reducible exact Below.refl _ _ | with_reducible refine Below.setCell ?_ ?_ _ | with_reducible refine Below.alloc ?_ ?_ _ | with_reducible refine Below.drew ?_ | with_reducible refine below_dn ?_ _ | refine below_two ?_ (by assumption) | omega | (simp; omega) | (simp; done)))⟩
  exact key _ _ _ rfl rfl rfl
end Go.Proofs.Ytgjfdclmoeellaa
