/- The walks of the laws WordRing and WordConverts: each returns true for every input within the range of its types. -/
import Derived.Test.YtgjfdclmoeellaaKa
import Derived.Test.YtgjfdclmoeellaaPd
namespace Go.Proofs.Ytgjfdclmoeellaa
open Go.RowKit
set_option linter.unusedSimpArgs false
set_option linter.unusedVariables false

theorem op_add : opCode ⟨#[43]⟩ = 1 := by simp [opCode]
theorem op_sub : opCode ⟨#[45]⟩ = 2 := by simp [opCode]
theorem op_mul : opCode ⟨#[42]⟩ = 3 := by simp [opCode]
theorem op_quo : opCode ⟨#[47]⟩ = 4 := by simp [opCode]
theorem op_rem : opCode ⟨#[37]⟩ = 5 := by simp [opCode]
theorem op_and : opCode ⟨#[38]⟩ = 6 := by simp [opCode]
theorem op_or : opCode ⟨#[124]⟩ = 7 := by simp [opCode]
theorem op_xor : opCode ⟨#[94]⟩ = 8 := by simp [opCode]
theorem op_not : opCode ⟨#[38, 94]⟩ = 9 := by simp [opCode]
theorem op_shl : opCode ⟨#[60, 60]⟩ = 10 := by simp [opCode]
theorem op_shr : opCode ⟨#[62, 62]⟩ = 11 := by simp [opCode]

set_option maxHeartbeats 1000000 in
theorem walkWordRing (k x y z : Int) (h1 : -9223372036854775808 ≤ k) (h2 : k ≤ 9223372036854775807) (x0 : 0 ≤ x) (x1 : x ≤ 18446744073709551615) (y0 : 0 ≤ y) (y1 : y ≤ 18446744073709551615) (z0 : 0 ≤ z) (z1 : z ≤ 18446744073709551615) (w : World) :
    Calls Try.prog 7 #[.int .i64 k, .int .u64 x, .int .u64 y, .int .u64 z] w fun e w' => e = .returned (.bool true) ∧ Below w.heap.size w w' := by
  cases hk : isW k
  · have e2 : errW k = 2 := by simp [errW, hk]
    go_enter Try.func7, Try.ntmps7
    go_wp2_with (first | (go_at_call 27; refine (wrapX_any _ _ _).mono ?_; rintro e w' ⟨rfl, rfl⟩) | (go_at_call 18; refine (answers01 _).mono ?_; rintro e w' ⟨rfl, rfl⟩) | (go_at_call 19; refine (rwhole_any _ _).mono ?_; rintro e w' ⟨rfl, rfl⟩))
    go_ret; exact ⟨rfl, Below.refl _ _⟩
  · have e2 : errW k = 0 := by simp [errW, hk]
    have ey := rwrap_eq k y hk y0 y1
    have ez := rwrap_eq k z hk z0 z1
    obtain ⟨a0, a1⟩ := wrapW_bd k x x0 x1
    obtain ⟨b0, b1⟩ := wrapW_bd k y y0 y1
    obtain ⟨c0, c1⟩ := wrapW_bd k z z0 z1
    have ia := inW_wrapW k x hk x0 x1
    have ib := inW_wrapW k y hk y0 y1
    have ic := inW_wrapW k z hk z0 z1
    generalize ha : wrapW k x = a at *
    generalize hb : wrapW k y = b at *
    generalize hc : wrapW k z = c at *
    obtain ⟨ab, bc, s, p, wh, ac, ⟨ab0, ab1⟩, ⟨bc0, bc1⟩, ⟨p0, p1⟩, ⟨ac0, ac1⟩, e3, e4, e5, e6, e7, e8, e9, e10, e11, e12, e13, e14⟩ := ring_law k a b c ia ib ic a0 a1 b0 b1 c0 c1
    clear ia ib ic
    have o1 := op_add
    have o2 := op_sub
    have o3 := op_mul
    go_enter Try.func7, Try.ntmps7
    go_wp2_with (first | (go_at_call 27; refine (wrapX_any _ _ _).mono ?_; rintro e w' ⟨rfl, rfl⟩) | (go_at_call 18; refine (answers01 _).mono ?_; rintro e w' ⟨rfl, rfl⟩) | (go_at_call 21; refine (rwrap_any _ _ _ h1 h2 (by omega) (by omega)).mono ?_; rintro e w' ⟨rfl, rfl⟩) | (go_at_call 32; refine (arith_any _ _ _ _ _ h1 h2 (by omega) (by omega) (by omega) (by omega)).mono ?_; rintro e w1 ⟨rfl, hw⟩))
    go_ret
    exact ⟨rfl, by repeat (first | assumption | exact Below.refl _ _ | refine below_two ?_ (by assumption))⟩
end Go.Proofs.Ytgjfdclmoeellaa
