/- Plain lemmas for the laws of constants: what goes together as whole numbers do. No program in sight. -/
import Derived.Test.YtgjfdclmoeellaaDoorPk
namespace Go.Proofs.YtgjfdclmoeellaaDoor
open Go.RowKit
set_option linter.unusedSimpArgs false
set_option linter.unusedVariables false

theorem kval_bd {neg : Bool} {n : Int} (h : sound neg n = true) (n0 : 0 ≤ n) (n1 : n ≤ 18446744073709551615) : -9223372036854775808 ≤ kval neg n ∧ kval neg n ≤ 18446744073709551615 := by
  have h1 := kval_pos h
  unfold kval; cases neg <;> simp at h1 ⊢ <;> omega
theorem kres_self {neg : Bool} {n : Int} (h : sound neg n = true) (n0 : 0 ≤ n) (n1 : n ≤ 18446744073709551615) : kres (kval neg n) = (neg, n, 0) := by
  have hb := kval_bd h n0 n1
  have h1 := kval_pos h
  unfold kres; rw [if_pos hb]
  unfold kval; cases neg
  · simp; omega
  · simp at h1 ⊢; omega
theorem kres_in {v : Int} (h0 : -9223372036854775808 ≤ v) (h1 : v ≤ 18446744073709551615) : kres v = (decide (v < 0), if v < 0 then -v else v, 0) := by
  unfold kres; rw [if_pos ⟨h0, h1⟩]
theorem kres_out {v : Int} (h : ¬ (-9223372036854775808 ≤ v ∧ v ≤ 18446744073709551615)) : kres v = (false, 0, 10) := by
  unfold kres; rw [if_neg h]
/-- a result that is a constant: its value, and that it is one -/
theorem kres_ok {v : Int} {n : Bool} {m e : Int} (h : kres v = (n, m, e)) (he : e = 0) : (-9223372036854775808 ≤ v ∧ v ≤ 18446744073709551615) ∧ kval n m = v ∧ sound n m = true ∧ 0 ≤ m ∧ m ≤ 18446744073709551615 := by
  unfold kres at h
  split at h
  · rename_i hb
    simp only [Prod.mk.injEq] at h
    obtain ⟨rfl, rfl, _⟩ := h
    refine ⟨hb, ?_, ?_, ?_, ?_⟩
    · unfold kval; by_cases hv : v < 0 <;> simp [hv]
    · unfold sound; by_cases hv : v < 0 <;> simp [hv]; omega
    · split <;> omega
    · split <;> omega
  · simp only [Prod.mk.injEq] at h
    obtain ⟨_, _, rfl⟩ := h
    exact absurd he (by decide)
theorem kres_err {v : Int} {n : Bool} {m e : Int} (h : kres v = (n, m, e)) (he : e ≠ 0) : ¬ (-9223372036854775808 ≤ v ∧ v ≤ 18446744073709551615) ∧ n = false ∧ m = 0 ∧ e = 10 := by
  unfold kres at h
  split at h
  · simp only [Prod.mk.injEq] at h; exact absurd h.2.2.symm he
  · rename_i hb; simp only [Prod.mk.injEq] at h; exact ⟨hb, h.1.symm, h.2.1.symm, h.2.2.symm⟩
theorem fold_add {xn yn : Bool} {x y : Int} (hx : sound xn x = true) (hy : sound yn y = true) : kFold 1 xn x yn y = kres (kval xn x + kval yn y) := by simp [kFold, hx, hy]
theorem fold_sub {xn yn : Bool} {x y : Int} (hx : sound xn x = true) (hy : sound yn y = true) : kFold 2 xn x yn y = kres (kval xn x - kval yn y) := by simp [kFold, hx, hy]
theorem fold_mul {xn yn : Bool} {x y : Int} (hx : sound xn x = true) (hy : sound yn y = true) : kFold 3 xn x yn y = kres (kval xn x * kval yn y) := by simp [kFold, hx, hy]
/-! ### KonstRing -/
theorem kring (xn yn : Bool) (x y : Int) (hx : sound xn x = true) (hy : sound yn y = true) (x0 : 0 ≤ x) (x1 : x ≤ 18446744073709551615) (y0 : 0 ≤ y) (y1 : y ≤ 18446744073709551615) :
    ∃ (an : Bool) (a e : Int) (pn : Bool) (p g : Int) (un : Bool) (u i : Int), (0 ≤ a ∧ a ≤ 18446744073709551615) ∧ (0 ≤ u ∧ u ≤ 18446744073709551615) ∧
      kFold 1 xn x yn y = (an, a, e) ∧ kFold 1 yn y xn x = (an, a, e) ∧ kFold 3 xn x yn y = (pn, p, g) ∧ kFold 3 yn y xn x = (pn, p, g) ∧ (e = 0 → kFold 2 an a yn y = (xn, x, 0)) ∧
      kUnary 8 xn x = (un, u, i) ∧ (i = 0 → kUnary 8 un u = (xn, x, 0)) := by
  obtain ⟨an, a, e, ha⟩ : ∃ an a e, kres (kval xn x + kval yn y) = (an, a, e) := ⟨_, _, _, rfl⟩
  obtain ⟨pn, p, g, hp⟩ : ∃ an a e, kres (kval xn x * kval yn y) = (an, a, e) := ⟨_, _, _, rfl⟩
  obtain ⟨un, u, i, hu⟩ : ∃ an a e, kres (-(kval xn x) - 1) = (an, a, e) := ⟨_, _, _, rfl⟩
  have bd : ∀ {v : Int} {n : Bool} {m f : Int}, kres v = (n, m, f) → 0 ≤ m ∧ m ≤ 18446744073709551615 := fun {v n m f} h => by
    by_cases hf : f = 0
    · have := kres_ok h hf; exact this.2.2.2
    · have := kres_err h hf; omega
  refine ⟨an, a, e, pn, p, g, un, u, i, bd ha, bd hu, by rw [fold_add hx hy, ha], by rw [fold_add hy hx, Int.add_comm, ha], by rw [fold_mul hx hy, hp], by rw [fold_mul hy hx, Int.mul_comm, hp], ?_, ?_, ?_⟩
  · intro he
    obtain ⟨_, hv, hs, _, _⟩ := kres_ok ha he
    rw [fold_sub hs hy, hv, Int.add_sub_cancel, kres_self hx x0 x1]
  · simp [kUnary, hx, hu]
  · intro hi
    obtain ⟨_, hv, hs, _, _⟩ := kres_ok hu hi
    have e1 : kUnary 8 un u = kres (-(kval un u) - 1) := by simp [kUnary, hs]
    rw [e1, hv, show -(-(kval xn x) - 1) - 1 = kval xn x by omega, kres_self hx x0 x1]
/-! ### KonstOrders -/
theorem korders (xn yn : Bool) (x y : Int) (hx : sound xn x = true) (hy : sound yn y = true) (x0 : 0 ≤ x) (x1 : x ≤ 18446744073709551615) (y0 : 0 ≤ y) (y1 : y ≤ 18446744073709551615) :
    ∃ (neg : Bool) (n h : Int), kFold 2 yn y xn x = (neg, n, h) ∧ (∀ c, c = 1 ∨ c = 3 ∨ c = 5 → kCmpErr c xn x yn y = 0) ∧
      kCmp 3 xn x yn y = decide (kval xn x < kval yn y) ∧ kCmp 1 xn x yn y = decide (kval xn x = kval yn y) ∧ kCmp 5 xn x yn y = decide (kval yn y < kval xn x) ∧
      (h = 0 → (decide (kval xn x < kval yn y) = (!neg && decide (0 < n))) ∧ decide (kval xn x = kval yn y) = (n == 0)) := by
  obtain ⟨an, a, e, ha⟩ : ∃ an a e, kres (kval yn y - kval xn x) = (an, a, e) := ⟨_, _, _, rfl⟩
  have hc : ∀ c, c = 1 ∨ c = 3 ∨ c = 5 → kCmpErr c xn x yn y = 0 := by
    intro c h
    have : ¬ c = 0 := by omega
    simp [kCmpErr, hx, hy, this]
  refine ⟨an, a, e, by rw [fold_sub hy hx, ha], hc, by simp [kCmp, hc], by simp [kCmp, hc], by simp [kCmp, hc], fun he => ?_⟩
  obtain ⟨_, hv, hs, h0, _⟩ := kres_ok ha he
  have h1 := kval_pos hs
  generalize kval xn x = X at *
  generalize kval yn y = Y at *
  have hv' : (if an then -a else a) = Y - X := hv
  clear hv ha
  constructor
  · rw [Bool.eq_iff_iff]; cases an <;> simp at h1 hv' ⊢ <;> omega
  · rw [Bool.eq_iff_iff]; cases an <;> simp at h1 hv' ⊢ <;> omega
/-! ### KonstDivides -/
theorem tmod_fact (a b : Int) (hb : b ≠ 0) : (a.tmod b).natAbs < b.natAbs ∧ (a.tmod b).natAbs ≤ a.natAbs ∧ (0 ≤ a → 0 ≤ a.tmod b) ∧ (a ≤ 0 → a.tmod b ≤ 0) := by
  have h := Int.natAbs_tmod a b
  have hp : 0 < b.natAbs := by omega
  refine ⟨by rw [h]; exact Nat.mod_lt _ hp, by rw [h]; exact Nat.mod_le _ _, fun h0 => Int.tmod_nonneg b h0, fun h0 => ?_⟩
  have h1 := Int.tmod_nonneg b (show 0 ≤ -a by omega)
  rw [Int.neg_tmod] at h1; omega
theorem pow63 (k : Nat) (hk : k ≤ 62) : (1 : Int) ≤ 2 ^ k ∧ (2 : Int) ^ k ≤ 4611686018427387904 := by
  have h : (2 : Int) ^ k ≤ 2 ^ 62 := by
    have := Nat.pow_le_pow_right (show 0 < 2 by decide) hk
    exact_mod_cast this
  have e : (2 : Int) ^ 62 = 4611686018427387904 := by decide
  have h2 : (0 : Int) < 2 ^ k := Int.pow_pos (by decide)
  omega
theorem kdivides (xn yn : Bool) (x y : Int) (k : Nat) (hk : k ≤ 62) (hx : sound xn x = true) (hy : sound yn y = true) (x0 : 0 ≤ x) (x1 : x ≤ 18446744073709551615) (y0 : 0 ≤ y) (y1 : y ≤ 18446744073709551615) (hz : ¬ y = 0) :
    ∃ (qn : Bool) (q e : Int) (rn : Bool) (r : Int) (pn : Bool) (p : Int) (dn : Bool) (d : Int) (un : Bool) (u h : Int) (l : Int),
      (0 ≤ q ∧ q ≤ 18446744073709551615) ∧ (0 ≤ r ∧ r ≤ 18446744073709551615) ∧ (0 ≤ p ∧ p ≤ 18446744073709551615) ∧ (0 ≤ d ∧ d ≤ 18446744073709551615) ∧ (0 ≤ u ∧ u ≤ 18446744073709551615) ∧
      kFold 4 xn x yn y = (qn, q, e) ∧ kFold 5 xn x yn y = (rn, r, 0) ∧ r < y ∧ (0 < r → rn = xn) ∧
      (e = 0 → kFold 3 qn q yn y = (pn, p, 0)) ∧ (e = 0 → kFold 1 pn p rn r = (xn, x, 0)) ∧
      kFold 11 xn x false k = (dn, d, 0) ∧ kFold 10 dn d false k = (un, u, h) ∧ (h ≠ 0 → h = 10 ∧ xn = true) ∧
      (h = 0 → kFold 2 xn x un u = (false, l, 0) ∧ l < 2 ^ k) := by
  have hb := kval_bd hx x0 x1
  have hX := hx
  have hY : kval yn y ≠ 0 := by unfold kval; split <;> omega
  have hya : (kval yn y).natAbs = y.natAbs := by unfold kval; split <;> omega
  obtain ⟨f1, f2, f3, f4⟩ := tmod_fact (kval xn x) (kval yn y) hY
  have hr : kres ((kval xn x).tmod (kval yn y)) = (decide ((kval xn x).tmod (kval yn y) < 0), if (kval xn x).tmod (kval yn y) < 0 then -((kval xn x).tmod (kval yn y)) else (kval xn x).tmod (kval yn y), 0) := by
    apply kres_in
    · by_cases h : 0 ≤ kval xn x
      · have := f3 h; omega
      · have := f4 (by omega); omega
    · by_cases h : 0 ≤ kval xn x
      · have := f3 h; omega
      · have := f4 (by omega); omega
  obtain ⟨rn, r, hrr⟩ : ∃ rn r, kres ((kval xn x).tmod (kval yn y)) = (rn, r, 0) := ⟨_, _, hr⟩
  obtain ⟨_, rv, rs, r0, r1⟩ := kres_ok hrr rfl
  obtain ⟨qn, q, e, hq⟩ : ∃ an a e, kres ((kval xn x).tdiv (kval yn y)) = (an, a, e) := ⟨_, _, _, rfl⟩
  have bd : ∀ {v : Int} {n : Bool} {m f : Int}, kres v = (n, m, f) → 0 ≤ m ∧ m ≤ 18446744073709551615 := fun {v n m f} h => by
    by_cases hf : f = 0
    · have := kres_ok h hf; exact this.2.2.2
    · have := kres_err h hf; omega
  -- the product of quotient and divisor lies between 0 and the number
  have hdm := Int.mul_tdiv_add_tmod (kval xn x) (kval yn y)
  have hpb : -9223372036854775808 ≤ (kval xn x).tdiv (kval yn y) * kval yn y ∧ (kval xn x).tdiv (kval yn y) * kval yn y ≤ 18446744073709551615 := by
    rw [Int.mul_comm] at hdm
    by_cases h : 0 ≤ kval xn x
    · have := f3 h; omega
    · have := f4 (by omega); omega
  obtain ⟨pn, p, hp⟩ : ∃ pn p, kres ((kval xn x).tdiv (kval yn y) * kval yn y) = (pn, p, 0) := ⟨_, _, kres_in hpb.1 hpb.2⟩
  obtain ⟨_, pv, ps, _, _⟩ := kres_ok hp rfl
  -- shifts
  obtain ⟨k1, k2⟩ := pow63 k hk
  have hd2 := Int.emod_add_mul_ediv (kval xn x) (2 ^ k)
  have hm0 := Int.emod_nonneg (kval xn x) (show (2 : Int) ^ k ≠ 0 by omega)
  have hm1 := Int.emod_lt_of_pos (kval xn x) (show (0 : Int) < 2 ^ k by omega)
  have hdb : -9223372036854775808 ≤ kval xn x / 2 ^ k ∧ kval xn x / 2 ^ k ≤ 18446744073709551615 := by
    by_cases h : 0 ≤ kval xn x
    · have h2 := Int.ediv_le_self (2 ^ k) h
      have h3 := Int.ediv_nonneg h (show (0 : Int) ≤ 2 ^ k by omega)
      omega
    · have h2 : kval xn x ≤ kval xn x / 2 ^ k := by
        rw [Int.le_ediv_iff_mul_le (by omega)]
        have h := Int.mul_nonneg (a := -(kval xn x)) (b := 2 ^ k - 1) (by omega) (by omega)
        rw [Int.mul_sub, Int.neg_mul, Int.mul_one] at h
        omega
      have h3 : kval xn x / 2 ^ k < 0 := Int.ediv_neg_of_neg_of_pos (by omega) (by omega)
      omega
  obtain ⟨dn, d, hd⟩ : ∃ pn p, kres (kval xn x / 2 ^ k) = (pn, p, 0) := ⟨_, _, kres_in hdb.1 hdb.2⟩
  obtain ⟨_, dv, ds, d0, d1⟩ := kres_ok hd rfl
  obtain ⟨un, u, h, hu⟩ : ∃ an a e, kres (kval xn x / 2 ^ k * 2 ^ k) = (an, a, e) := ⟨_, _, _, rfl⟩
  have hmc : kval xn x / 2 ^ k * 2 ^ k = 2 ^ k * (kval xn x / 2 ^ k) := Int.mul_comm _ _
  have hsk : sound false (k : Int) = true := by simp [sound]
  refine ⟨qn, q, e, rn, r, pn, p, dn, d, un, u, h, kval xn x % 2 ^ k, bd hq, bd hrr, bd hp, bd hd, bd hu, ?_, ?_, ?_, ?_, ?_, ?_, ?_, ?_, ?_, ?_⟩
  · simp [kFold, hx, hy, hz, hq]
  · simp [kFold, hx, hy, hz, hrr]
  · have e1 : (kval rn r).natAbs = r.natAbs := by unfold kval; split <;> omega
    rw [rv] at e1; omega
  · intro hr0
    have h1 := kval_pos rs
    have h2 := kval_pos hx
    rw [← rv] at f3 f4
    unfold kval at f3 f4
    cases rn <;> cases xn <;> simp at h1 h2 f3 f4 ⊢ <;> omega
  · intro he
    obtain ⟨_, qv, qs, _, _⟩ := kres_ok hq he
    rw [fold_mul qs hy, qv, hp]
  · intro he
    rw [fold_add ps rs, pv, rv, Int.mul_comm, hdm, kres_self hx x0 x1]
  · simp [kFold, hx, hsk, hd]
  · simp [kFold, ds, hsk, dv, hu]
  · intro hne
    obtain ⟨hout, _, _, h10⟩ := kres_err hu hne
    refine ⟨h10, ?_⟩
    cases xn
    · exfalso; apply hout
      have : kval false x = x := rfl
      have h3 := Int.ediv_nonneg (show 0 ≤ kval false x by omega) (show (0 : Int) ≤ 2 ^ k by omega)
      have h4 := Int.mul_nonneg h3 (show (0 : Int) ≤ 2 ^ k by omega)
      omega
    · rfl
  · intro he
    obtain ⟨_, uv, us, _, _⟩ := kres_ok hu he
    refine ⟨?_, hm1⟩
    rw [fold_sub hx us, uv, show kval xn x - kval xn x / 2 ^ k * 2 ^ k = kval xn x % 2 ^ k by omega, kres_in (by omega) (by omega)]
    simp; omega
end Go.Proofs.YtgjfdclmoeellaaDoor
