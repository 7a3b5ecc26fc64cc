/- The walk of the law WordTells: it returns true for every input within the range of its types, where the library's table of powers of ten holds what it is laid with. -/
import Derived.Test.YtgjfdclmoeellaaDoorSc
import Derived.Test.YtgjfdclmoeellaaDoorRa
import Derived.Test.YtgjfdclmoeellaaDoorPc
import Derived.Test.YtgjfdclmoeellaaDoorPn
namespace Go.Proofs.YtgjfdclmoeellaaDoor
open Go.RowKit
set_option linter.unusedSimpArgs false
set_option linter.unusedVariables false

theorem answersT (w : World) : Calls Tryd.prog 8 #[] w fun e w' => e = .returned (.bool true) ∧ w = w' := by
  have h : resW (errW 2) (wrapW 2 255) = 18446744073709551615 := by decide
  have h2 : errW 2 = 0 := by decide
  have h3 : inW 3 255 = true := by decide
  go_enter Tryd.func8, Tryd.ntmps8
  go_wp2_with (first | (go_at_call 25; refine (wrapX_any _ _ _).mono ?_; rintro e w' ⟨rfl, rfl⟩) | (go_at_call 26; refine (is_any _ _ _).mono ?_; rintro e w' ⟨rfl, rfl⟩))
  go_ret; exact ⟨rfl, rfl⟩
theorem below_of (k a b : Int) (ha : 0 ≤ a) (ha2 : a ≤ 18446744073709551615) (hb : 0 ≤ b) (hb2 : b ≤ 18446744073709551615) :
    rBelow (ofNeg k a) (ofN k a) (ofNeg k b) (ofN k b) = decide (sval k a < sval k b) := by
  have e1 := sval_neg k a ha ha2
  have e2 := sval_neg k b hb hb2
  have e3 := ofN_abs k a ha ha2
  have e4 := ofN_abs k b hb hb2
  rw [e1, e2, e3, e4]
  generalize sval k a = x
  generalize sval k b = y
  unfold rBelow
  by_cases hx : x < 0 <;> by_cases hy : y < 0 <;> simp [hx, hy] <;> omega
theorem tab_below {w w' : World} {name : String} {k : IntKind} {zs : List Int} (h : Lib.TabIs Tryd.prog w name k zs) (hb : Below w.heap.size w w') : Lib.TabIs Tryd.prog w' name k zs := by
  unfold Lib.TabIs World.var? at *
  cases hg : (Tryd.prog).globalNamed name with
  | none => simp [hg] at h
  | some g =>
    simp only [hg, Option.bind_some] at h ⊢
    have hlt : g < w.heap.size := by
      rcases Nat.lt_or_ge g w.heap.size with h' | h'
      · exact h'
      · rw [Array.getElem?_eq_none h'] at h; simp at h
    rw [hb.block g hlt]
    exact h
/-- both numbers are of the kind -/
theorem tells_ok (k a b : Int) (h1 : -9223372036854775808 ≤ k) (h2 : k ≤ 9223372036854775807) (ha : 0 ≤ a) (ha2 : a ≤ 18446744073709551615) (hb : 0 ≤ b) (hb2 : b ≤ 18446744073709551615) (w : World) (htab : Lib.TabIs Tryd.prog w "internal/strconv.uint64pow10" .u64 Lib.pow10Tab)
    (hc : checkW k [a] = 0) (hd : checkW k [a, b] = 0) :
    Calls Tryd.prog 3 #[.int .i64 k, .int .u64 a, .int .u64 b] w fun e w' => e = .returned (.bool true) ∧ Below w.heap.size w w' := by
  have hbo := below_of k a b ha ha2 hb hb2
  obtain ⟨n0, n1⟩ := ofN_bd k a ha ha2
  obtain ⟨u, hu⟩ : ∃ u : Nat, ofN k a = u := ⟨(ofN k a).toNat, by omega⟩
  have ht : txtW k a = digsK (ofNeg k a) u := by simp [txtW, hc, hu]
  have hu1 : u < 18446744073709551616 := by omega
  have hl : lessW k a b = rBelow (ofNeg k a) (ofN k a) (ofNeg k b) (ofN k b) := by rw [hbo]; simp [lessW, hd]
  have r1 : rBad k [a] = 0 := by rw [rBad1_eq k a ha ha2, hc]
  have r2 : rBad k [a, b] = 0 := by rw [rBad2_eq k a b ha ha2 hb hb2, hd]
  rw [hu] at hl
  have hof := rof_any k a
  rw [hu] at hof
  have hofb := rof_any k b
  have c1 := less_any k a b w h1 h2
  rw [hl, hd] at c1
  have c2 := fun w => wtext_any k a w h1 h2 ha ha2
  rw [ht, hc] at c2
  have c3 := fun b' o c w h h' => rbad2 k a b b' o c w h1 h2 ha ha2 hb hb2 h h'
  have c4 := fun b' o c w h => rbad1 k a b' o c w h1 h2 ha ha2 h
  rw [r2] at c3
  rw [r1] at c4
  have C1 := Lib.hid c1
  have C2 := Lib.hid c2
  have C3 := Lib.hid c3
  have C4 := Lib.hid c4
  have C5 := Lib.hid hof
  have C6 := Lib.hid hofb
  clear c1 c2 c3 c4 hof hofb hl ht r1 r2 hbo n0 n1 hc hd hu
  generalize ofNeg k a = an at *
  generalize ofNeg k b = bn at *
  generalize ofN k b = bm at *
  go_enter Tryd.func3, Tryd.ntmps3
  go_wp2_with fail
  refine C1.out.mono ?_
  rintro e w1 ⟨rfl, hw1⟩
  go_wp2_with fail
  refine (C2.out _ (tab_below htab hw1)).mono ?_
  rintro e w2 ⟨rfl, hw2⟩
  have hw : Below w.heap.size w w2 := below_two hw1 hw2
  clear hw1 hw2 C1 C2 htab
  go_wp2_with fail
  refine (C3.out _ _ _ _ (by simp) (by simp)).mono ?_
  rintro e w' ⟨rfl, rfl⟩
  go_wp2_with fail
  refine (C4.out _ _ _ _ (by simp)).mono ?_
  rintro e w' ⟨rfl, rfl⟩
  go_wp2_with fail
  refine (answersT _).mono ?_
  rintro e w' ⟨rfl, rfl⟩
  go_wp2_with fail
  refine (C5.out _ h1 h2).mono ?_
  rintro e w3 ⟨rfl, hw3⟩
  obtain ⟨B, hB, hBw⟩ : ∃ B : Nat, w.heap.size ≤ B ∧ B = w2.heap.size := ⟨_, hw.size, rfl⟩
  go_wp2_with fail
  refine (C6.out _ h1 h2).mono ?_
  rintro e w4 ⟨rfl, hw4⟩
  go_wp2_with fail
  refine (rbelow_any _ _ _ _ _).mono ?_
  rintro e w5 ⟨rfl, hw5⟩
  go_wp2_with fail
  refine (C5.out _ h1 h2).mono ?_
  rintro e w6 ⟨rfl, hw6⟩
  go_wp2_with fail
  refine (rdigits_any an u hu1 _).mono ?_
  rintro e w7 ⟨rfl, hw7⟩
  have hA : Below w.heap.size w w3 := by
    refine below_two hw (below_two ?_ hw3)
    exact ((Below.refl _ _).alloc (Nat.le_refl _) _).alloc (by simp) _
  have hw' : Below w.heap.size w w7 := below_two (below_two (below_two (below_two hA hw4) hw5) hw6) hw7
  clear hA hw3 hw4 hw5 hw6 hw7 hw hB hBw
  go_wp2
  go_ret
  exact ⟨rfl, hw'⟩
/-- the first one is of the kind, the second one is not -/
theorem tells_half (k a b : Int) (h1 : -9223372036854775808 ≤ k) (h2 : k ≤ 9223372036854775807) (ha : 0 ≤ a) (ha2 : a ≤ 18446744073709551615) (hb : 0 ≤ b) (hb2 : b ≤ 18446744073709551615) (w : World) (htab : Lib.TabIs Tryd.prog w "internal/strconv.uint64pow10" .u64 Lib.pow10Tab)
    (hc : checkW k [a] = 0) (hd : ¬ checkW k [a, b] = 0) :
    Calls Tryd.prog 3 #[.int .i64 k, .int .u64 a, .int .u64 b] w fun e w' => e = .returned (.bool true) ∧ Below w.heap.size w w' := by
  obtain ⟨n0, n1⟩ := ofN_bd k a ha ha2
  obtain ⟨u, hu⟩ : ∃ u : Nat, ofN k a = u := ⟨(ofN k a).toNat, by omega⟩
  have ht : txtW k a = digsK (ofNeg k a) u := by simp [txtW, hc, hu]
  have hu1 : u < 18446744073709551616 := by omega
  have hl : lessW k a b = false := by simp [lessW, hd]
  have r1 : rBad k [a] = 0 := by rw [rBad1_eq k a ha ha2, hc]
  have r2 : rBad k [a, b] = checkW k [a, b] := rBad2_eq k a b ha ha2 hb hb2
  have hof := rof_any k a
  rw [hu] at hof
  have c1 := less_any k a b w h1 h2
  rw [hl] at c1
  have c2 := fun w => wtext_any k a w h1 h2 ha ha2
  rw [ht, hc] at c2
  have c3 := fun b' o c w h h' => rbad2 k a b b' o c w h1 h2 ha ha2 hb hb2 h h'
  have c4 := fun b' o c w h => rbad1 k a b' o c w h1 h2 ha ha2 h
  rw [r2] at c3
  rw [r1] at c4
  have C1 := Lib.hid c1
  have C2 := Lib.hid c2
  have C3 := Lib.hid c3
  have C4 := Lib.hid c4
  have C5 := Lib.hid hof
  have d1 : (checkW k [a, b] != 0) = true := by simp [hd]
  have d2 : (checkW k [a, b] == 0) = false := by simp [hd]
  clear c1 c2 c3 c4 hof hl ht r1 r2 n0 n1 hc hd hu
  generalize checkW k [a, b] = cw at *
  generalize ofNeg k a = an at *
  go_enter Tryd.func3, Tryd.ntmps3
  go_wp2_with fail
  refine C1.out.mono ?_
  rintro e w1 ⟨rfl, hw1⟩
  go_wp2_with fail
  refine (C2.out _ (tab_below htab hw1)).mono ?_
  rintro e w2 ⟨rfl, hw2⟩
  have hw : Below w.heap.size w w2 := below_two hw1 hw2
  clear hw1 hw2 C1 C2 htab
  go_wp2_with fail
  refine (C3.out _ _ _ _ (by simp) (by simp)).mono ?_
  rintro e w' ⟨rfl, rfl⟩
  go_wp2_with fail
  refine (C4.out _ _ _ _ (by simp)).mono ?_
  rintro e w' ⟨rfl, rfl⟩
  go_wp2_with fail
  refine (answersT _).mono ?_
  rintro e w' ⟨rfl, rfl⟩
  go_wp2_with fail
  refine (C5.out _ h1 h2).mono ?_
  rintro e w3 ⟨rfl, hw3⟩
  go_wp2_with fail
  refine (rdigits_any an u hu1 _).mono ?_
  rintro e w7 ⟨rfl, hw7⟩
  have hA : Below w.heap.size w w3 := by
    refine below_two hw (below_two ?_ hw3)
    exact ((Below.refl _ _).alloc (Nat.le_refl _) _).alloc (by simp) _
  have hw' : Below w.heap.size w w7 := below_two hA hw7
  clear hA hw3 hw7 hw
  go_wp2
  go_ret
  exact ⟨rfl, hw'⟩
/-- the first one is not of the kind -/
theorem tells_bad (k a b : Int) (h1 : -9223372036854775808 ≤ k) (h2 : k ≤ 9223372036854775807) (ha : 0 ≤ a) (ha2 : a ≤ 18446744073709551615) (hb : 0 ≤ b) (hb2 : b ≤ 18446744073709551615) (w : World) (htab : Lib.TabIs Tryd.prog w "internal/strconv.uint64pow10" .u64 Lib.pow10Tab)
    (hc : ¬ checkW k [a] = 0) (hd : ¬ checkW k [a, b] = 0) :
    Calls Tryd.prog 3 #[.int .i64 k, .int .u64 a, .int .u64 b] w fun e w' => e = .returned (.bool true) ∧ Below w.heap.size w w' := by
  have ht : txtW k a = [] := by simp [txtW, hc]
  have hl : lessW k a b = false := by simp [lessW, hd]
  have r1 : rBad k [a] = checkW k [a] := rBad1_eq k a ha ha2
  have r2 : rBad k [a, b] = checkW k [a, b] := rBad2_eq k a b ha ha2 hb hb2
  have c1 := less_any k a b w h1 h2
  rw [hl] at c1
  have c2 := fun w => wtext_any k a w h1 h2 ha ha2
  rw [ht] at c2
  have c3 := fun b' o c w h h' => rbad2 k a b b' o c w h1 h2 ha ha2 hb hb2 h h'
  have c4 := fun b' o c w h => rbad1 k a b' o c w h1 h2 ha ha2 h
  rw [r2] at c3
  rw [r1] at c4
  have C1 := Lib.hid c1
  have C2 := Lib.hid c2
  have C3 := Lib.hid c3
  have C4 := Lib.hid c4
  have d1 : (checkW k [a, b] != 0) = true := by simp [hd]
  have d2 : (checkW k [a, b] == 0) = false := by simp [hd]
  have d3 : (checkW k [a] != 0) = true := by simp [hc]
  have d4 : (checkW k [a] == 0) = false := by simp [hc]
  clear c1 c2 c3 c4 hl ht r1 r2 hc hd
  generalize checkW k [a, b] = cw at *
  generalize checkW k [a] = cx at *
  go_enter Tryd.func3, Tryd.ntmps3
  go_wp2_with fail
  refine C1.out.mono ?_
  rintro e w1 ⟨rfl, hw1⟩
  go_wp2_with fail
  refine (C2.out _ (tab_below htab hw1)).mono ?_
  rintro e w2 ⟨rfl, hw2⟩
  have hw : Below w.heap.size w w2 := below_two hw1 hw2
  clear hw1 hw2 C1 C2 htab
  go_wp2_with fail
  refine (C3.out _ _ _ _ (by simp) (by simp)).mono ?_
  rintro e w' ⟨rfl, rfl⟩
  go_wp2_with fail
  refine (C4.out _ _ _ _ (by simp)).mono ?_
  rintro e w' ⟨rfl, rfl⟩
  go_wp2_with fail
  refine (answersT _).mono ?_
  rintro e w' ⟨rfl, rfl⟩
  have hw' := below_two hw (((Below.refl _ _).alloc (Nat.le_refl _) (Obj.cells #[Value.int IntKind.u64 a, Value.int IntKind.u64 b] 22)).alloc (by simp) (Obj.cells #[Value.int IntKind.u64 a] 22))
  clear hw
  go_wp2
  go_ret
  exact ⟨rfl, hw'⟩
theorem check_mono (k a b : Int) (h : checkW k [a, b] = 0) : checkW k [a] = 0 := by
  unfold checkW at *
  split at h <;> simp_all
theorem walkWordTells (k a b : Int) (h1 : -9223372036854775808 ≤ k) (h2 : k ≤ 9223372036854775807) (ha : 0 ≤ a) (ha2 : a ≤ 18446744073709551615) (hb : 0 ≤ b) (hb2 : b ≤ 18446744073709551615) (w : World) (htab : Lib.TabIs Tryd.prog w "internal/strconv.uint64pow10" .u64 Lib.pow10Tab) :
    Calls Tryd.prog 3 #[.int .i64 k, .int .u64 a, .int .u64 b] w fun e w' => e = .returned (.bool true) ∧ Below w.heap.size w w' := by
  by_cases hd : checkW k [a, b] = 0
  · exact tells_ok k a b h1 h2 ha ha2 hb hb2 w htab (check_mono k a b hd) hd
  · by_cases hc : checkW k [a] = 0
    · exact tells_half k a b h1 h2 ha ha2 hb hb2 w htab hc hd
    · exact tells_bad k a b h1 h2 ha ha2 hb hb2 w htab hc hd
end Go.Proofs.YtgjfdclmoeellaaDoor
