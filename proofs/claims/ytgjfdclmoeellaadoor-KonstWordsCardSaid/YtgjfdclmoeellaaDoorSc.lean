/- The contracts of word.Text and konst.Text: a number's decimal numeral, with its sign. -/
import Derived.Test.YtgjfdclmoeellaaDoorSb
import Derived.Test.YtgjfdclmoeellaaDoorWb
import Derived.Test.YtgjfdclmoeellaaDoorCa
namespace Go.Proofs.YtgjfdclmoeellaaDoor
open Go.RowKit
set_option linter.unusedSimpArgs false
set_option linter.unusedVariables false

open Go.Shelf Go.Lib Go.Sort in
theorem below_gr (B : Nat) (w : World) (q : Nat) (os : Array Obj) (hB : B ≤ w.heap.size) : RowKit.Below B w (grow (w.drewN q) os) :=
  ⟨rfl, rfl, rfl, by first | (simp [grow]; done) | (simp [grow]; omega), fun i hi => by
    show ((w.drewN q).heap ++ os)[i]? = _
    rw [Array.getElem?_append_left (by show i < w.heap.size; omega)]
    rfl⟩
theorem itoa_digs (z : Int) : Lib.itoa z = digsK (decide (z < 0)) z.natAbs := by
  unfold Lib.itoa digsK
  by_cases h : z < 0
  · simp [h]
  · simp [h]; congr 1; omega
def txtW (k n : Int) : List UInt8 := if checkW k [n] = 0 then digsK (ofNeg k n) (ofN k n).toNat else []
def txtK (neg : Bool) (n : Int) : List UInt8 := if sound neg n then digsK neg n.toNat else []
theorem wtext_any (k n : Int) (w : World) (h1 : -9223372036854775808 ≤ k) (h2 : k ≤ 9223372036854775807) (n0 : 0 ≤ n) (n1 : n ≤ 18446744073709551615) (htab : Lib.TabIs Tryd.prog w "internal/strconv.uint64pow10" .u64 Lib.pow10Tab) :
    Calls Tryd.prog 6 #[.int .i64 k, .int .u64 n] w fun e w' => e = .returned (.tuple #[.string ⟨(txtW k n).toArray⟩, .int .i64 (checkW k [n])]) ∧ Below w.heap.size w w' := by
  by_cases he : checkW k [n] = 0
  · cases hg : sgnW k
    · obtain ⟨u, rfl⟩ : ∃ u : Nat, n = u := ⟨n.toNat, by omega⟩
      have hx : txtW k u = Lib.decDigits u := by simp [txtW, he, ofNeg, ofN, hg, digsK]
      go_enter Tryd.func6, Tryd.ntmps6
      go_wp2_with (first | (go_at_call 20; refine (check1 _ u _ _ _ _ (by simp)).mono ?_; rintro e w' ⟨rfl, rfl⟩) | (go_at_call 21; refine (signed_any _ _ h1 h2).mono ?_; rintro e w' ⟨rfl, rfl⟩) | (go_at_call 23; refine (fu_any u (by omega) _ (Lib.tabIs_alloc htab _)).mono ?_; rintro e w' ⟨rfl, q, os, rfl⟩))
      go_ret2; go_tidy; refine ⟨ret_two (by rw [hx]; rfl) (v_int (by simp [he])), below_two ((Below.refl _ _).alloc (Nat.le_refl _) _) (below_gr _ _ q os (Nat.le_refl _))⟩
    · have hx : txtW k n = Lib.itoa (wrap64 n) := by
        have hs : sval k n = wrap64 n := by simp [sval, hg]
        have hn : ofNeg k n = decide (wrap64 n < 0) := by rw [sval_neg k n n0 n1, hs]
        have ha := ofN_abs k n n0 n1
        rw [hs] at ha
        rw [itoa_digs, txtW, if_pos he, hn]
        congr 1
        rw [ha]; split <;> omega
      have hw : -9223372036854775808 ≤ wrap64 n ∧ wrap64 n ≤ 9223372036854775807 := by unfold wrap64; omega
      go_enter Tryd.func6, Tryd.ntmps6
      go_wp2_with (first | (go_at_call 20; refine (check1 _ n _ _ _ _ (by simp)).mono ?_; rintro e w' ⟨rfl, rfl⟩) | (go_at_call 21; refine (signed_any _ _ h1 h2).mono ?_; rintro e w' ⟨rfl, rfl⟩) | (go_at_call 22; refine (Tryd.strconv_FormatInt_10 (wrap64 n) hw.1 hw.2 _ (Lib.tabIs_alloc htab _)).mono ?_; rintro e w' ⟨rfl, q, os, rfl⟩))
      go_ret2; go_tidy; refine ⟨ret_two (by rw [hx]; rfl) (v_int (by simp [he])), below_two ((Below.refl _ _).alloc (Nat.le_refl _) _) (below_gr _ _ q os (Nat.le_refl _))⟩
  · have hn : (checkW k [n] != 0) = true := by simp [he]
    have hx : txtW k n = [] := by simp [txtW, he]
    go_enter Tryd.func6, Tryd.ntmps6
    go_wp2_with (first | (go_at_call 20; refine (check1 _ n _ _ _ _ (by simp)).mono ?_; rintro e w' ⟨rfl, rfl⟩) | (go_at_call 21; refine (signed_any _ _ h1 h2).mono ?_; rintro e w' ⟨rfl, rfl⟩))
    go_ret2; go_tidy; refine ⟨ret_two (by rw [hx]; rfl) (v_int rfl), (Below.refl _ _).alloc (Nat.le_refl _) _⟩
theorem ktext_any (neg : Bool) (n : Int) (w : World) (n0 : 0 ≤ n) (n1 : n ≤ 18446744073709551615) (htab : Lib.TabIs Tryd.prog w "internal/strconv.uint64pow10" .u64 Lib.pow10Tab) :
    Calls Tryd.prog 14 #[.bool neg, .int .u64 n] w fun e w' => e = .returned (.tuple #[.string ⟨(txtK neg n).toArray⟩, .int .i64 (if sound neg n then 0 else 1)]) ∧ Below w.heap.size w w' := by
  obtain ⟨u, rfl⟩ : ∃ u : Nat, n = u := ⟨n.toNat, by omega⟩
  cases hs : sound neg u
  · have hx : txtK neg u = [] := by simp [txtK, hs]
    go_enter Tryd.func14, Tryd.ntmps14
    go_wp2_with (first | (go_at_call 28; refine (ksound_any _ _ _).mono ?_; rintro e w' ⟨rfl, rfl⟩))
    go_ret2; go_tidy; refine ⟨ret_two (by rfl) (v_int (by simp)), Below.refl _ _⟩
  · have hl : (Lib.decDigits u).length < 922337203685477580 := by
      rw [Lib.decDigits_length]
      by_cases h0 : 1 ≤ u
      · have := Lib.numDigits_eq u h0 (by omega); split at this <;> omega
      · have : u = 0 := by omega
        subst this; rw [Lib.nDigits_small (by omega)]; omega
    cases neg
    · have hx : txtK false u = Lib.decDigits u := by simp [txtK, hs, digsK]
      go_enter Tryd.func14, Tryd.ntmps14
      go_wp2_with (first | (go_at_call 28; refine (ksound_any _ _ _).mono ?_; rintro e w' ⟨rfl, rfl⟩) | (go_at_call 23; refine (fu_any u (by omega) _ htab).mono ?_; rintro e w' ⟨rfl, q, os, rfl⟩))
      go_ret2; go_tidy; refine ⟨ret_two (by rfl) (v_int (by simp)), below_gr _ _ q os (Nat.le_refl _)⟩
    · have hx : txtK true u = 45 :: Lib.decDigits u := by simp [txtK, hs, digsK]
      generalize hD : Lib.decDigits u = D at *
      have hfu := fu_any u (by omega) w htab
      rw [hD] at hfu
      clear hD
      go_enter Tryd.func14, Tryd.ntmps14
      go_wp2_with (first | (go_at_call 28; refine (ksound_any _ _ _).mono ?_; rintro e w' ⟨rfl, rfl⟩) | (go_at_call 23; refine hfu.mono ?_; rintro e w' ⟨rfl, q, os, rfl⟩))
      go_ret2; go_tidy; refine ⟨ret_two (by rw [← str_cons]; rfl) (v_int (by simp)), below_gr _ _ q os (Nat.le_refl _)⟩
end Go.Proofs.YtgjfdclmoeellaaDoor
