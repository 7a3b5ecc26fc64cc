/- The walk of script.ending. -/
import Derived.Test.YthfnjphmodcnoaaDoorBm
namespace Go.Proofs.YthfnjphmodcnoaaDoor
open Go.RowKit
set_option linter.unusedSimpArgs false
set_option linter.unusedVariables false

theorem endQ_lt {l : List UInt8} (h : endK l < 1) : endQ l = none := by unfold endQ; rw [if_pos h]
theorem endQ_no {l : List UInt8} (h : ¬ endK l < 1) (hh : endH l = false) : endQ l = if endK l = 2 then none else some (endK l, 0) := by unfold endQ; rw [if_neg h, hh]; rfl
theorem endQ_two {l : List UInt8} (h : endK l = 2) (hh : endH l = true) : endQ l = (match Lib.parseIntB 64 (endC l) with | .ok v => if Lib.itoa v = endC l then some (2, v) else none | _ => none) := by unfold endQ; rw [if_neg (by omega), hh, if_pos h]; rfl
theorem endQ_has {l : List UInt8} (h : ¬ endK l < 1) (h2 : endK l ≠ 2) (hh : endH l = true) : endQ l = none := by unfold endQ; rw [if_neg h, hh, if_neg h2]; rfl
set_option maxRecDepth 20000 in
set_option maxHeartbeats 2000000 in
theorem ending_c (s : ByteArray) (w : World) (h : Laid w) (hs : s.size ≤ 1073741824) : Calls Tryd.prog 28 #[.string s] w fun e w' =>
    (∃ K V : Int, e = .returned (.tuple #[.int .i64 K, .int .i64 V, .bool (endQ (bl s)).isSome]) ∧ ∀ k v, endQ (bl s) = some (k, v) → K = k ∧ V = v) ∧ Below w.heap.size w w' := by
  have HC := Lib.hid (cut_c s w h hs)
  have HL := Lib.hid h
  obtain ⟨r1, r2⟩ := endK_range (bl s)
  obtain ⟨k, hk⟩ : ∃ k, endK (bl s) = k := ⟨_, rfl⟩
  rw [hk] at r1 r2
  have hlen := endC_len (bl s)
  rw [bl_len] at hlen
  have HK := Lib.hid hk
  have HI : Hid (∀ W, Laid W → Calls Tryd.prog 51 #[.slice (some ⟨0, 0, none⟩) 6 6, .string ⟨(endW (bl s)).toArray⟩] W fun e w' => e = .returned (.int .i64 k) ∧ w' = W) := Lib.hid (fun W hW => by have := idx_end (endW (bl s)) W hW; rw [show Lib.idxOfS endB ⟨(endW (bl s)).toArray⟩ = k from hk] at this; exact this)
  clear h hk
  go_enter Tryd.func28, Tryd.ntmps28
  go_wp2_with (go_at_call 50; refine HC.out.mono ?_)
  rintro e W1 ⟨rfl, hB1⟩
  have HL1 := Lib.hid (HL.out.below hB1)
  have HB1 := Lib.hid hB1
  clear hB1 HC
  have hcl : (⟨(endC (bl s)).toArray⟩ : ByteArray).size ≤ 1073741824 := by show (endC (bl s)).toArray.size ≤ _; simp; omega
  have hbc : bl (⟨(endC (bl s)).toArray⟩ : ByteArray) = endC (bl s) := by simp [bl]
  by_cases h1 : k < 1
  · have hq : endQ (bl s) = none := endQ_lt (by rw [HK.out]; exact h1)
    go_wp2_with (go_at_call 51; refine (HI.out _ HL1.out).mono ?_)
    rintro e w' ⟨rfl, rfl⟩
    go_wp2
    go_ret3
    exact ⟨⟨0, 0, by rw [hq]; rfl, fun a b h => by rw [hq] at h; cases h⟩, HB1.out⟩
  have h1' : ¬ endK (bl s) < 1 := by rw [HK.out]; exact h1
  cases hh : endH (bl s) with
  | false =>
    by_cases h2 : k = 2
    · subst h2
      have hq : endQ (bl s) = none := by rw [endQ_no h1' hh, HK.out]; rfl
      go_wp2_with (go_at_call 51; refine (HI.out _ HL1.out).mono ?_)
      rintro e w' ⟨rfl, rfl⟩
      go_wp2
      go_ret3
      exact ⟨⟨0, 0, by rw [hq]; rfl, fun a b h => by rw [hq] at h; cases h⟩, HB1.out⟩
    · have hq : endQ (bl s) = some (k, 0) := by rw [endQ_no h1' hh, HK.out, if_neg h2]
      have hk2 : (k == 2) = false := beq_eq_false_iff_ne.2 h2
      go_wp2_with (go_at_call 51; refine (HI.out _ HL1.out).mono ?_)
      rintro e w' ⟨rfl, rfl⟩
      go_wp2
      go_ret3
      exact ⟨⟨k, 0, by rw [hq]; rfl, fun a b h => by rw [hq] at h; cases h; exact ⟨rfl, rfl⟩⟩, HB1.out⟩
  | true =>
    by_cases h2 : k = 2
    · subst h2
      have HQ := Lib.hid (endQ_two HK.out hh)
      have HP := Lib.hid (pint64_c ⟨(endC (bl s)).toArray⟩ w (HL.out) hcl)
      go_wp2_with (go_at_call 51; refine (HI.out _ HL1.out).mono ?_)
      rintro e w' ⟨rfl, rfl⟩
      have HP := Lib.hid (pint64_c ⟨(endC (bl s)).toArray⟩ w' HL1.out hcl)
      rw [hbc] at HP
      go_wp2_with (go_at_call 47; refine HP.out.mono ?_)
      rintro e W2 ⟨⟨V, ev, rfl, hc⟩, hB2⟩
      have HB2 := Lib.hid (HB1.out.trans (hB2.mono HB1.out.size))
      have HL2 := Lib.hid (HL1.out.below hB2)
      clear hB2
      rcases hc with ⟨hv, rfl⟩ | ⟨hv, t, p, rfl⟩
      · obtain ⟨b1, b2⟩ := int_bounds _ _ hv
        have HF := Lib.hid (fint_c V W2 HL2.out b1 b2)
        clear b1 b2
        by_cases hq : Lib.itoa V = endC (bl s)
        · have hqq : endQ (bl s) = some (2, V) := by rw [HQ.out, hv]; simp [hq]
          have hqb : (Lib.itoa V == endC (bl s)) = true := by simp [hq]
          go_wp2_with (first | (rw [eg_nil']; go_simp; try rw [el_nil]) | (go_at_call 38; refine (HF.out).mono ?_; rintro e W3 ⟨rfl, hB3⟩))
          go_ret3
          exact ⟨⟨2, V, by rw [hqq]; rfl, fun a b h => by rw [hqq] at h; cases h; exact ⟨rfl, rfl⟩⟩, HB2.out.trans (hB3.mono HB2.out.size)⟩
        · have hqq : endQ (bl s) = none := by rw [HQ.out, hv]; simp [hq]
          have hqb : (Lib.itoa V == endC (bl s)) = false := beq_eq_false_iff_ne.2 hq
          go_wp2_with (first | (rw [eg_nil']; go_simp; try rw [el_nil]) | (go_at_call 38; refine (HF.out).mono ?_; rintro e W3 ⟨rfl, hB3⟩))
          go_ret3
          exact ⟨⟨2, V, by rw [hqq]; rfl, fun a b h => by rw [hqq] at h; cases h⟩, HB2.out.trans (hB3.mono HB2.out.size)⟩
      · have hqq : endQ (bl s) = none := by
          rw [HQ.out]
          split
          · rename_i v hv2; exact absurd hv2 (hv v)
          · rfl
        go_wp2_with (first | (rw [eg_held']; go_simp; try rw [el_held]))
        go_ret3
        exact ⟨⟨2, V, by rw [hqq]; rfl, fun a b h => by rw [hqq] at h; cases h⟩, HB2.out⟩
    · have hq : endQ (bl s) = none := endQ_has h1' (by rw [HK.out]; exact h2) hh
      have hk2 : (k == 2) = false := beq_eq_false_iff_ne.2 h2
      go_wp2_with (go_at_call 51; refine (HI.out _ HL1.out).mono ?_)
      rintro e w' ⟨rfl, rfl⟩
      go_wp2
      go_ret3
      exact ⟨⟨0, 0, by rw [hq]; rfl, fun a b h => by rw [hq] at h; cases h⟩, HB1.out⟩
end Go.Proofs.YthfnjphmodcnoaaDoor
