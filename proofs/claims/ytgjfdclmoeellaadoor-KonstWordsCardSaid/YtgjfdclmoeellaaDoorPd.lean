/- Plain lemmas for the laws of the word layer: words of a kind as numbers modulo what the kind has. No program in sight. -/
import Derived.Test.YtgjfdclmoeellaaDoorPc
namespace Go.Proofs.YtgjfdclmoeellaaDoor
open Go.RowKit
set_option linter.unusedSimpArgs false
set_option linter.unusedVariables false

theorem inW_ext {k x y : Int} (hx : inW k x = true) (hy : inW k y = true) (x0 : 0 ≤ x) (x1 : x ≤ 18446744073709551615) (y0 : 0 ≤ y) (y1 : y ≤ 18446744073709551615) (h : x % modW k = y % modW k) : x = y := by
  have e := wrapW_congr k x y x0 x1 y0 y1 h
  rw [(inW_eq hx).2, (inW_eq hy).2] at e; exact e
theorem arith_ok {k a b : Int} {c : Nat} (hc : 1 ≤ c) (h9 : c ≤ 9) (ha : inW k a = true) (hb : inW k b = true) (hz : (c = 4 ∨ c = 5) → b ≠ 0) : arithErr k c a b = 0 := by
  unfold arithErr
  rw [if_neg (by omega), if_pos (checkW2.2 ⟨ha, hb⟩)]
  split
  · rename_i h; exact absurd h.2 (hz h.1)
  · rfl
theorem arith_val {k a b : Int} {c : Nat} (hc : 1 ≤ c) (h9 : c ≤ 9) (ha : inW k a = true) (hb : inW k b = true) (hz : (c = 4 ∨ c = 5) → b ≠ 0) : arithW k c a b = wrapW k (rawW k c a b) := by
  unfold arithW; rw [arith_ok hc h9 ha hb hz]; rfl
/-- a result of Arith is a word of its kind -/
theorem arith_in {k a b : Int} {c : Nat} (hc : 1 ≤ c) (h9 : c ≤ 9) (ha : inW k a = true) (hb : inW k b = true) (hz : (c = 4 ∨ c = 5) → b ≠ 0) (a0 : 0 ≤ a) (a1 : a ≤ 18446744073709551615) (b0 : 0 ≤ b) (b1 : b ≤ 18446744073709551615) :
    inW k (arithW k c a b) = true ∧ (0 ≤ arithW k c a b ∧ arithW k c a b ≤ 18446744073709551615) ∧ arithW k c a b % modW k = rawW k c a b % modW k := by
  rw [arith_val hc h9 ha hb hz]
  have hbd := rRaw_bd k a b c hc h9 a0 a1 b0 b1
  exact ⟨inW_wrapW k _ (inW_eq ha).1 hbd.1 hbd.2, wrapW_bd k _ hbd.1 hbd.2, wrapW_mod k _⟩
theorem add_in {k a b : Int} (ha : inW k a = true) (hb : inW k b = true) (a0 : 0 ≤ a) (a1 : a ≤ 18446744073709551615) (b0 : 0 ≤ b) (b1 : b ≤ 18446744073709551615) :
    inW k (arithW k 1 a b) = true ∧ 0 ≤ arithW k 1 a b ∧ arithW k 1 a b ≤ 18446744073709551615 ∧ arithW k 1 a b % modW k = (a + b) % modW k := by
  obtain ⟨h1, h2, h3⟩ := arith_in (c := 1) (by decide) (by decide) ha hb (by omega) a0 a1 b0 b1
  exact ⟨h1, h2.1, h2.2, by rw [h3]; simp only [rawW]; exact mod_modW k _⟩
theorem sub_in {k a b : Int} (ha : inW k a = true) (hb : inW k b = true) (a0 : 0 ≤ a) (a1 : a ≤ 18446744073709551615) (b0 : 0 ≤ b) (b1 : b ≤ 18446744073709551615) :
    inW k (arithW k 2 a b) = true ∧ 0 ≤ arithW k 2 a b ∧ arithW k 2 a b ≤ 18446744073709551615 ∧ arithW k 2 a b % modW k = (a - b) % modW k := by
  obtain ⟨h1, h2, h3⟩ := arith_in (c := 2) (by decide) (by decide) ha hb (by omega) a0 a1 b0 b1
  exact ⟨h1, h2.1, h2.2, by rw [h3]; simp only [rawW]; exact mod_modW k _⟩
theorem mul_in {k a b : Int} (ha : inW k a = true) (hb : inW k b = true) (a0 : 0 ≤ a) (a1 : a ≤ 18446744073709551615) (b0 : 0 ≤ b) (b1 : b ≤ 18446744073709551615) :
    inW k (arithW k 3 a b) = true ∧ 0 ≤ arithW k 3 a b ∧ arithW k 3 a b ≤ 18446744073709551615 ∧ arithW k 3 a b % modW k = (a * b) % modW k := by
  obtain ⟨h1, h2, h3⟩ := arith_in (c := 3) (by decide) (by decide) ha hb (by omega) a0 a1 b0 b1
  exact ⟨h1, h2.1, h2.2, by rw [h3]; simp only [rawW]; exact mod_modW k _⟩
theorem add_m {m x y z : Int} (h : x % m = y % m) : (x + z) % m = (y + z) % m := by rw [Int.add_emod, h, ← Int.add_emod]
theorem add_m' {m x y z : Int} (h : x % m = y % m) : (z + x) % m = (z + y) % m := by rw [Int.add_emod, h, ← Int.add_emod]
theorem sub_m {m x y z : Int} (h : x % m = y % m) : (x - z) % m = (y - z) % m := by rw [Int.sub_emod, h, ← Int.sub_emod]
theorem mul_m {m x y z : Int} (h : x % m = y % m) : (x * z) % m = (y * z) % m := by rw [Int.mul_emod, h, ← Int.mul_emod]
theorem mul_m' {m x y z : Int} (h : x % m = y % m) : (z * x) % m = (z * y) % m := by rw [Int.mul_emod, h, ← Int.mul_emod]
/-- the ring's laws -/
theorem ring_law (k a b c : Int) (ha : inW k a = true) (hb : inW k b = true) (hc : inW k c = true) (a0 : 0 ≤ a) (a1 : a ≤ 18446744073709551615) (b0 : 0 ≤ b) (b1 : b ≤ 18446744073709551615) (c0 : 0 ≤ c) (c1 : c ≤ 18446744073709551615) :
    ∃ ab bc s p wh ac : Int, (0 ≤ ab ∧ ab ≤ 18446744073709551615) ∧ (0 ≤ bc ∧ bc ≤ 18446744073709551615) ∧ (0 ≤ p ∧ p ≤ 18446744073709551615) ∧ (0 ≤ ac ∧ ac ≤ 18446744073709551615) ∧
      arithW k 1 a b = ab ∧ arithW k 1 b a = ab ∧ arithW k 1 b c = bc ∧ arithW k 1 ab c = s ∧ arithW k 1 a bc = s ∧ arithW k 2 ab b = a ∧ arithW k 3 a b = p ∧ arithW k 3 b a = p ∧ arithW k 3 a bc = wh ∧ arithW k 3 a c = ac ∧ arithW k 1 p ac = wh ∧ arithErr k 1 p ac = 0 := by
  obtain ⟨iab, ab0, ab1, mab⟩ := add_in ha hb a0 a1 b0 b1
  obtain ⟨iba, ba0, ba1, mba⟩ := add_in hb ha b0 b1 a0 a1
  obtain ⟨ibc, bc0, bc1, mbc⟩ := add_in hb hc b0 b1 c0 c1
  obtain ⟨il, l0, l1, ml⟩ := add_in iab hc ab0 ab1 c0 c1
  obtain ⟨ir, r0, r1, mr⟩ := add_in ha ibc a0 a1 bc0 bc1
  obtain ⟨ik, k0, k1, mk⟩ := sub_in iab hb ab0 ab1 b0 b1
  obtain ⟨ip, p0, p1, mp⟩ := mul_in ha hb a0 a1 b0 b1
  obtain ⟨iq, q0, q1, mq⟩ := mul_in hb ha b0 b1 a0 a1
  obtain ⟨iw, w0, w1, mw⟩ := mul_in ha ibc a0 a1 bc0 bc1
  obtain ⟨iac, ac0, ac1, mac⟩ := mul_in ha hc a0 a1 c0 c1
  obtain ⟨isum, s0, s1, ms⟩ := add_in ip iac p0 p1 ac0 ac1
  refine ⟨_, _, _, _, _, _, ⟨ab0, ab1⟩, ⟨bc0, bc1⟩, ⟨p0, p1⟩, ⟨ac0, ac1⟩, rfl, ?_, rfl, rfl, ?_, ?_, rfl, ?_, rfl, rfl, ?_, arith_ok (by decide) (by decide) ip iac (by omega)⟩
  · exact inW_ext iba iab ba0 ba1 ab0 ab1 (by rw [mba, mab, Int.add_comm])
  · exact inW_ext ir il r0 r1 l0 l1 (by rw [mr, ml, add_m' mbc, add_m mab, Int.add_assoc])
  · exact inW_ext ik ha k0 k1 a0 a1 (by rw [mk, sub_m mab, Int.add_sub_cancel])
  · exact inW_ext iq ip q0 q1 p0 p1 (by rw [mq, mp, Int.mul_comm])
  · exact inW_ext isum iw s0 s1 w0 w1 (by rw [ms, mw, add_m mp, add_m' mac, mul_m' mbc, Int.mul_add])
/-- the number of a word lies in another kind -/
theorem rIn_eq (f t n : Int) (hf : isW f = true) (ht : isW t = true) (h0 : 0 ≤ n) (h1 : n ≤ 18446744073709551615) : rIn t (ofNeg f n) (ofN f n) = true ↔ (loW t ≤ sval f n ∧ sval f n ≤ hiW t) := by
  have hn := sval_neg f n h0 h1
  have ha := ofN_abs f n h0 h1
  rw [ha, hn]
  generalize sval f n = s
  rcases isW_cases ht with rfl | rfl | rfl | rfl | rfl | rfl <;> by_cases hs : s < 0 <;> simp [rIn, loW, hiW, topW, bitsW, modW, sgnW, isW, hs] <;> omega
theorem back_id (f t n : Int) (hf : isW f = true) (ht : isW t = true) (hn : inW f n = true) (h0 : 0 ≤ n) (h1 : n ≤ 18446744073709551615) (h : rIn t (ofNeg f n) (ofN f n) = true) : wrapW f (wrapW t n) = n := by
  obtain ⟨hl, hh⟩ := (rIn_eq f t n hf ht h0 h1).1 h
  have hm := sval_mod f n h0 h1
  have hw := wrapW_of t (sval f n) ht hl hh
  rw [hm] at hw
  rw [hw, (inW_eq hn).2]
theorem mod_dvd {f t n m : Int} (hf : isW f = true) (ht : isW t = true) (hb : bitsW t ≤ bitsW f) (h : n % modW f = m % modW f) : n % modW t = m % modW t := by
  rcases isW_cases hf with rfl | rfl | rfl | rfl | rfl | rfl <;> rcases isW_cases ht with rfl | rfl | rfl | rfl | rfl | rfl <;> simp [bitsW, modW] at hb h ⊢ <;> omega
theorem through (by' t n : Int) (hb : isW by' = true) (ht : isW t = true) (h0 : 0 ≤ n) (h1 : n ≤ 18446744073709551615) (h : bitsW t ≤ bitsW by') : wrapW t (wrapW by' n) = wrapW t n :=
  wrapW_congr t _ _ (wrapW_bd by' n h0 h1).1 (wrapW_bd by' n h0 h1).2 h0 h1 (mod_dvd hb ht h (wrapW_mod by' n))
end Go.Proofs.YtgjfdclmoeellaaDoor
