/- The walk of the law WordConverts: it returns true for every input within the range of its types. -/
import Derived.Test.YtgjfdclmoeellaaKb
namespace Go.Proofs.Ytgjfdclmoeellaa
open Go.RowKit
set_option linter.unusedSimpArgs false
set_option linter.unusedVariables false

set_option maxRecDepth 100000 in
set_option maxHeartbeats 2000000 in
theorem walkWordConverts (f b t n : Int) (f1 : -9223372036854775808 ≤ f) (f2 : f ≤ 9223372036854775807) (b1 : -9223372036854775808 ≤ b) (b2 : b ≤ 9223372036854775807) (t1 : -9223372036854775808 ≤ t) (t2 : t ≤ 9223372036854775807) (n0 : 0 ≤ n) (n1 : n ≤ 18446744073709551615) (w : World) :
    Calls Try.prog 3 #[.int .i64 f, .int .i64 b, .int .i64 t, .int .u64 n] w fun e w' => e = .returned (.bool true) ∧ Below w.heap.size w w' := by
  have ei := rIs_eq f n n0 n1
  cases hf : isW f
  · have e1 : convErr f t n = 2 := by simp [convErr, hf]
    have e2 : resW 2 (wrapW t n) = 0 := rfl
    go_enter Try.func3, Try.ntmps3
    go_wp2_with (first | (go_at_call 17; refine (convert_any _ _ _ _).mono ?_; rintro e w1 ⟨rfl, hw⟩) | (go_at_call 18; refine (answers01 _).mono ?_; rintro e w' ⟨rfl, rfl⟩) | (go_at_call 19; refine (rwhole_any _ _).mono ?_; rintro e w' ⟨rfl, rfl⟩))
    go_ret; exact ⟨rfl, by assumption⟩
  cases ht : isW t
  · have e1 : convErr f t n = 2 := by simp [convErr, ht]
    have e2 : resW 2 (wrapW t n) = 0 := rfl
    go_enter Try.func3, Try.ntmps3
    go_wp2_with (first | (go_at_call 17; refine (convert_any _ _ _ _).mono ?_; rintro e w1 ⟨rfl, hw⟩) | (go_at_call 18; refine (answers01 _).mono ?_; rintro e w' ⟨rfl, rfl⟩) | (go_at_call 19; refine (rwhole_any _ _).mono ?_; rintro e w' ⟨rfl, rfl⟩))
    go_ret; exact ⟨rfl, by assumption⟩
  cases hn : inW f n
  · have e1 : convErr f t n = 1 := by simp [convErr, hf, ht, checkW, hn]
    have e2 : resW 1 (wrapW t n) = 0 := rfl
    go_enter Try.func3, Try.ntmps3
    go_wp2_with (first | (go_at_call 17; refine (convert_any _ _ _ _).mono ?_; rintro e w1 ⟨rfl, hw⟩) | (go_at_call 18; refine (answers01 _).mono ?_; rintro e w' ⟨rfl, rfl⟩) | (go_at_call 19; refine (rwhole_any _ _).mono ?_; rintro e w' ⟨rfl, rfl⟩) | (go_at_call 20; refine (ris_any _ _ _ f1 f2 n0 n1).mono ?_; rintro e w' ⟨rfl, rfl⟩))
    go_ret; exact ⟨rfl, by assumption⟩
  have e1 : convErr f t n = 0 := by simp [convErr, hf, ht, checkW, hn]
  have er := rwrap_eq t n ht n0 n1
  obtain ⟨x0, x1⟩ := wrapW_bd t n n0 n1
  have ix := inW_wrapW t n ht n0 n1
  have hback : rIn t (ofNeg f n) (ofN f n) = true → (wrapW f (wrapW t n) != n) = false := fun h => by simp [back_id f t n hf ht hn n0 n1 h]
  have e3 : convErr t f (wrapW t n) = 0 := by simp [convErr, hf, ht, checkW, ix]
  have hb4 : isW b = true → convErr f b n = 0 := fun h => by simp [convErr, hf, h, checkW, hn]
  have hb5 : isW b = false → convErr f b n = 2 := fun h => by simp [convErr, h]
  have iy := fun h => inW_wrapW b n h n0 n1
  have hb6 : isW b = true → convErr b t (wrapW b n) = 0 := fun h => by simp [convErr, ht, h, checkW, iy h]
  have hb7 : isW b = true → bitsW t ≤ bitsW b → wrapW t (wrapW b n) = wrapW t n := fun h h' => through b t n h ht n0 n1 h'
  have a0 := ofN_pos f n n0 n1
  have a1 := ofN_hi f n n1
  clear ix iy
  generalize hx : wrapW t n = x at *
  have H1 := Lib.hid hback
  have H4 := Lib.hid hb4
  have H5 := Lib.hid hb5
  have H6 := Lib.hid hb6
  have H7 := Lib.hid hb7
  clear hback hb4 hb5 hb6 hb7
  go_enter Try.func3, Try.ntmps3
  go_wp2_with (first | (go_at_call 17; refine (convert_any _ _ _ _).mono ?_; rintro e w1 ⟨rfl, hw⟩) | (go_at_call 18; refine (answers01 _).mono ?_; rintro e w' ⟨rfl, rfl⟩) | (go_at_call 19; refine (rwhole_any _ _).mono ?_; rintro e w' ⟨rfl, rfl⟩) | (go_at_call 20; refine (ris_any _ _ _ f1 f2 n0 n1).mono ?_; rintro e w' ⟨rfl, rfl⟩) | (go_at_call 21; refine (rwrap_any _ _ _ t1 t2 n0 n1).mono ?_; rintro e w' ⟨rfl, rfl⟩) | (go_at_call 23; refine (rof_any _ _ _ f1 f2).mono ?_; rintro e w2 ⟨rfl, hw2⟩))
  refine (rin_any t _ _ _ t1 t2 ht a0 a1).mono ?_
  rintro e w3 ⟨rfl, hw3⟩
  have hq : (rIn t (ofNeg f n) (ofN f n) && (wrapW f x != n)) = false := by
    cases hr : rIn t (ofNeg f n) (ofN f n)
    · rfl
    · rw [H1.out hr]; rfl
  cases hb : isW b
  · have e5 := H5.out hb
    cases hr : rIn t (ofNeg f n) (ofN f n)
    · go_wp2_with (first | (go_at_call 17; refine (convert_any _ _ _ _).mono ?_; rintro e w1 ⟨rfl, hw⟩) | (go_at_call 19; refine (rwhole_any _ _).mono ?_; rintro e w' ⟨rfl, rfl⟩) | (go_at_call 24; refine (rbits_any _ _).mono ?_; rintro e w' ⟨rfl, rfl⟩))
      go_ret; exact ⟨rfl, by repeat (first | assumption | exact Below.refl _ _ | refine below_two ?_ (by assumption))⟩
    · have e9 := H1.out hr
      go_wp2_with (first | (go_at_call 17; refine (convert_any _ _ _ _).mono ?_; rintro e w1 ⟨rfl, hw⟩) | (go_at_call 19; refine (rwhole_any _ _).mono ?_; rintro e w' ⟨rfl, rfl⟩) | (go_at_call 24; refine (rbits_any _ _).mono ?_; rintro e w' ⟨rfl, rfl⟩))
      go_ret; exact ⟨rfl, by repeat (first | assumption | exact Below.refl _ _ | refine below_two ?_ (by assumption))⟩
  · have e4 := H4.out hb
    have e6 := H6.out hb
    by_cases hlt : bitsW b < bitsW t
    · cases hr : rIn t (ofNeg f n) (ofN f n)
      · go_wp2_with (first | (go_at_call 17; refine (convert_any _ _ _ _).mono ?_; rintro e w1 ⟨rfl, hw⟩) | (go_at_call 19; refine (rwhole_any _ _).mono ?_; rintro e w' ⟨rfl, rfl⟩) | (go_at_call 24; refine (rbits_any _ _).mono ?_; rintro e w' ⟨rfl, rfl⟩))
        go_ret; exact ⟨rfl, by repeat (first | assumption | exact Below.refl _ _ | refine below_two ?_ (by assumption))⟩
      · have e9 := H1.out hr
        go_wp2_with (first | (go_at_call 17; refine (convert_any _ _ _ _).mono ?_; rintro e w1 ⟨rfl, hw⟩) | (go_at_call 19; refine (rwhole_any _ _).mono ?_; rintro e w' ⟨rfl, rfl⟩) | (go_at_call 24; refine (rbits_any _ _).mono ?_; rintro e w' ⟨rfl, rfl⟩))
        go_ret; exact ⟨rfl, by repeat (first | assumption | exact Below.refl _ _ | refine below_two ?_ (by assumption))⟩
    · have e7 := H7.out hb (by omega)
      cases hr : rIn t (ofNeg f n) (ofN f n)
      · go_wp2_with (first | (go_at_call 17; refine (convert_any _ _ _ _).mono ?_; rintro e w1 ⟨rfl, hw⟩) | (go_at_call 19; refine (rwhole_any _ _).mono ?_; rintro e w' ⟨rfl, rfl⟩) | (go_at_call 24; refine (rbits_any _ _).mono ?_; rintro e w' ⟨rfl, rfl⟩))
        go_ret; exact ⟨rfl, by repeat (first | assumption | exact Below.refl _ _ | refine below_two ?_ (by assumption))⟩
      · have e9 := H1.out hr
        go_wp2_with (first | (go_at_call 17; refine (convert_any _ _ _ _).mono ?_; rintro e w1 ⟨rfl, hw⟩) | (go_at_call 19; refine (rwhole_any _ _).mono ?_; rintro e w' ⟨rfl, rfl⟩) | (go_at_call 24; refine (rbits_any _ _).mono ?_; rintro e w' ⟨rfl, rfl⟩))
        go_ret; exact ⟨rfl, by repeat (first | assumption | exact Below.refl _ _ | refine below_two ?_ (by assumption))⟩
end Go.Proofs.Ytgjfdclmoeellaa
