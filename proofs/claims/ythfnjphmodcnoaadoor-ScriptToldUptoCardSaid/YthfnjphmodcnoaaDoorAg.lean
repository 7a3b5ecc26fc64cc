/- Contract of script.number. -/
import Derived.Test.YthfnjphmodcnoaaDoorAf
import Derived.Test.YthfnjphmodcnoaaDoorAc
namespace Go.Proofs.YthfnjphmodcnoaaDoor
open Go.RowKit
set_option linter.unusedSimpArgs false
set_option linter.unusedVariables false

theorem pui63 (s : ByteArray) (w : World) (hs : s.size ≤ 1073741824) : Calls Tryd.prog 65 #[.string s, .int .i64 10, .int .i64 63] w fun e w' => e = .returned (Lib.uintTupleM 122 9223372036854775807 (Lib.parseUintB 63 (bl s))) ∧ Below w.heap.size w w' := by
  have eM : (2 : Nat) ^ 63 - 1 = 9223372036854775807 := by decide
  by_cases h0 : s.size = 0
  · have ht : s = ⟨#[]⟩ := by
      apply ByteArray.ext
      exact Array.eq_empty_of_size_eq_zero h0
    subst ht
    exact (Tryd.internal_strconv_ParseUint_empty 10 63 w).mono fun e w' ⟨he, hw⟩ => ⟨he, hw ▸ Below.refl _ _⟩
  · have hne : s.data.toList ≠ [] := fun h => h0 (by rw [Lib.size_eq, h]; rfl)
    refine (pu63_gen Tryd.lays287 s h0 (by omega) w).mono fun e w' ⟨he, hw⟩ => ⟨?_, hw ▸ Lib.bytesWorld_below w _ s⟩
    rw [he, Lib.parseUintB, if_neg (show bl s ≠ [] from hne), eM]; rfl
/-- strconv.ParseUint at 63 bits, in tens: its number and no error, or an error -/
theorem puint63_c (s : ByteArray) (w : World) (h : Laid w) (hs : s.size ≤ 1073741824) : Calls Tryd.prog 48 #[.string s, .int .i64 10, .int .i64 63] w fun e w' =>
    (∃ (V : Nat) (ev : Value), e = .returned (.tuple #[.int .u64 (V : Int), ev]) ∧ ((Lib.parseUintB 63 (bl s) = .ok V ∧ ev = .nilIface) ∨ ((∀ u, Lib.parseUintB 63 (bl s) ≠ .ok u) ∧ V ≤ 9223372036854775807 ∧ ∃ t p, ev = .iface t (.pointer (some p))))) ∧ Below w.heap.size w w' := by
  obtain ⟨ev, hr, hev⟩ := h.range
  obtain ⟨ev2, hr2, hev2⟩ := h.syn
  have hsz := h.size
  have hI := pui63 s w hs
  cases hp : Lib.parseUintB 63 (bl s) with
  | ok u =>
    rw [hp] at hI
    have hI : Calls Tryd.prog 65 #[.string s, .int .i64 10, .int .i64 63] w fun e w' => e = .returned (.tuple #[.int .u64 u, .nilIface]) ∧ Below w.heap.size w w' := hI
    clear hp hr hr2 hev hev2
    go_enter Tryd.func48, Tryd.ntmps48
    go_wp2_with (first | (go_at_call 65; refine (hI).mono ?_; rintro e W1 ⟨rfl, hW⟩))
    go_wp2
    go_ret2
    exact ⟨⟨u, _, rfl, .inl ⟨rfl, rfl⟩⟩, hW⟩
  | range =>
    rw [hp] at hI
    have hI : Calls Tryd.prog 65 #[.string s, .int .i64 10, .int .i64 63] w fun e w' => e = .returned (.tuple #[.int .u64 9223372036854775807, .iface 122 (.int .i64 1)]) ∧ Below w.heap.size w w' := hI
    go_enter Tryd.func48, Tryd.ntmps48
    go_wp2_with (first | (go_at_call 65; refine (hI).mono ?_; rintro e W1 ⟨rfl, hW⟩))
    have hv1 : W1.cell? ⟨4, 0, none⟩ = some ev := (hW.cell (p := ⟨4, 0, none⟩) (Nat.lt_of_lt_of_le (by decide) hsz)).trans hr
    go_wp2_with (first | (go_at_call 64; refine (Tryd.strconv_toError_range ⟨#[80, 97, 114, 115, 101, 85, 105, 110, 116]⟩ s 10 63 ev W1 (by omega) hv1 hev).mono ?_; rintro e W2 ⟨N, rfl, h1, h2, h3⟩))
    go_wp2
    go_ret2
    exact ⟨⟨9223372036854775807, _, rfl, .inr ⟨fun u hu => (by cases hu), Nat.le_refl _, _, _, rfl⟩⟩, hW.trans (h3.mono hW.size)⟩
  | _ =>
    rw [hp] at hI
    have hI : Calls Tryd.prog 65 #[.string s, .int .i64 10, .int .i64 63] w fun e w' => e = .returned (.tuple #[.int .u64 0, .iface 122 (.int .i64 2)]) ∧ Below w.heap.size w w' := hI
    go_enter Tryd.func48, Tryd.ntmps48
    go_wp2_with (first | (go_at_call 65; refine (hI).mono ?_; rintro e W1 ⟨rfl, hW⟩))
    have hv1 : W1.cell? ⟨3, 0, none⟩ = some ev2 := (hW.cell (p := ⟨3, 0, none⟩) (Nat.lt_of_lt_of_le (by decide) hsz)).trans hr2
    go_wp2_with (first | (go_at_call 64; refine (Tryd.strconv_toError_syntax ⟨#[80, 97, 114, 115, 101, 85, 105, 110, 116]⟩ s 10 63 ev2 W1 (by omega) hv1 hev2).mono ?_; rintro e W2 ⟨N, rfl, h1, h2, h3⟩))
    go_wp2
    go_ret2
    exact ⟨⟨0, _, rfl, .inr ⟨fun u hu => (by cases hu), by omega, _, _, rfl⟩⟩, hW.trans (h3.mono hW.size)⟩
end Go.Proofs.YthfnjphmodcnoaaDoor
