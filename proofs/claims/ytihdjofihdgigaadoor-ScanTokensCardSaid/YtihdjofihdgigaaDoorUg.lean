/- Contract of ParseUint, in tens and in sixteens, at digits. -/
import Derived.Test.YtihdjofihdgigaaDoorUf
import Derived.Lib.AtoiErrMem
namespace Go.Proofs.YtihdjofihdgigaaDoor
open Go.RowKit
set_option linter.unusedSimpArgs false
set_option linter.unusedVariables false

theorem conv_bytes (s : ByteArray) (w : World) : ∃ W1 cap, (convert 9 49 (.string s)).run Tryd.prog w = .ok (.slice (some ⟨w.heap.size, 0, none⟩) s.size cap) W1 ∧
    (∀ j (h : j < s.size), W1.cell? ⟨w.heap.size, j, none⟩ = some (.int .u8 (s[j].toNat : Int))) ∧ Below w.heap.size w W1 := by
  refine ⟨_, _, Lib.run_convert_string_bytes w 9 49 5 s Tryd.underlying9 Tryd.underlying49 Tryd.underlying5, fun j h => ?_, Lib.bytesWorld_below w _ s⟩
  rw [Lib.bytesWorld_cell w _ s j h]
  have e := at_bl s j h
  unfold bl at e
  simp [List.getD, e]
def puV (V : Nat) : Value := if V < 18446744073709551616 then Value.tuple #[.int .u64 (V : Int), .nilIface] else .tuple #[.int .u64 18446744073709551615, .iface 77 (.int .i64 1)]
theorem max_wrap : IntKind.u64.wrap (IntKind.u64.wrap 18446744073709551616 - 1) = 18446744073709551615 := by decide
theorem lower_hex : ∀ x : Fin 256, (97 ≤ x.val ∧ x.val ≤ 102) ∨ (65 ≤ x.val ∧ x.val ≤ 70) → bits .or .u8 (x.val : Int) 32 = ((x.val % 32 + 96 : Nat) : Int) := by decide +kernel
theorem lower_c (c : UInt8) (w : World) : Calls Tryd.prog 64 #[.int .u8 (c.toNat : Int)] w fun e w' => e = .returned (.int .u8 (bits .or .u8 (c.toNat : Int) 32)) ∧ w = w' := by
  go_enter Tryd.func64, Tryd.ntmps64
  go_wp2
  go_ret
  exact ⟨rfl, rfl⟩

set_option maxRecDepth 100000 in
set_option maxHeartbeats 2000000 in
theorem pu10 (s : ByteArray) (V : Nat) (w : World) (hs : s.size ≤ 1073741824) (h0 : s.size ≠ 0) (hV : valFrom false 0 (bl s) = some V) :
    Calls Tryd.prog 52 #[.string s, .int .i64 10, .int .i64 64] w fun e w' => e = .returned (puV V) ∧ Below w.heap.size w w' := by
  have e1 : s.toList.isEmpty = false := by
    rw [toList_bl, List.isEmpty_eq_false_iff]; exact fun e => h0 ((bl_size0 s).1 e)
  obtain ⟨W1, cap, hcv, hcell, hB⟩ := conv_bytes s w
  have hmx := max_wrap
  have HV := Lib.hid hV
  have HC := Lib.hid hcell
  clear hV hcell
  go_enter Tryd.func52, Tryd.ntmps52
  go_wp2
  clear hcv
  go_loop [12, 13, 101] (fun us n i => ∃ k v : Nat, k ≤ s.size ∧ us = .bool false ∧ i = .int .i64 k ∧ n = .int .u64 v ∧ v < 18446744073709551616 ∧ Hid (valFrom false 0 ((bl s).take k) = some v)) (fun _ _ i => s.size - (intOf i).toNat)
  case atStart => exact ⟨0, 0, by omega, rfl, rfl, rfl, by omega, Lib.hid rfl⟩
  case round =>
    obtain ⟨k, v, hk, rfl, rfl, rfl, hv, HK⟩ := hrel
    by_cases hlt : k < s.size
    · have hat := at_bl s k hlt
      have hc1 := HC.out k hlt
      have hlt1 : (k : Int) < (s.size : Int) := by omega
      generalize hch : s[k] = ch at *
      have HCH := Lib.hid hch
      have hrest : ∀ d, digVal false ch = some d → v * 10 + d ≤ V := fun d hd => by
        have h1 := val_snoc false (bl s) k v d ch hat HK.out hd
        have h2 := HV.out
        rw [← List.take_append_drop (k + 1) (bl s), valFrom_app, h1] at h2
        exact valFrom_ge false _ _ _ h2
      cases hdv : digVal false ch with
      | none =>
        have := val_bad false (bl s) k v ch hat HK.out hdv
        rw [HV.out] at this; cases this
      | some d =>
        have hge := hrest d hdv
        have hdb : d < 10 := digVal_lt false ch d hdv
        have hsn : Hid (valFrom false 0 ((bl s).take (k + 1)) = some (v * 10 + d)) := Lib.hid (val_snoc false (bl s) k v d ch hat HK.out hdv)
        have hcb := ch.toNat_lt
        obtain ⟨hr1, hr2, hdd⟩ : 48 ≤ ch.toNat ∧ ch.toNat ≤ 57 ∧ d = ch.toNat - 48 := by
          unfold digVal at hdv
          split at hdv
          · rename_i h; exact ⟨h.1, h.2, (Option.some.inj hdv).symm⟩
          · simp at hdv
        have h95 : ((ch.toNat : Int) == 95) = false := by rw [beq_eq_false_iff_ne]; omega
        clear hrest hat HCH hdv
        have hd48 : IntKind.u8.wrap ((ch.toNat : Int) - 48) = (d : Int) := by rw [hdd]; simp [IntKind.wrap, IntKind.signed, IntKind.bits]; omega
        have HL := Lib.hid (lower_c ch)
        have hx1 : (48 : Int) ≤ (ch.toNat : Int) := by omega
        have hx2 : (ch.toNat : Int) ≤ 57 := by omega
        have hx3 : ¬ (10 : Int) ≤ (d : Int) := by omega
        have hx4 : (0 : Int) ≤ (d : Int) := by omega
        clear hdd hcb
        by_cases hcut : 1844674407370955162 ≤ v
        · have HF : Hid (puV V = .tuple #[.int .u64 18446744073709551615, .iface 77 (.int .i64 1)]) := Lib.hid (if_neg (by omega))
          have hcut' : decide ((1844674407370955162 : Int) ≤ (v : Int)) = true := by rw [decide_eq_true_eq]; omega
          go_wp2_with (first | (go_at_call 64; refine (HL.out _).mono ?_; rintro e w' ⟨rfl, rfl⟩))
          go_ret2
          exact ⟨by rw [HF.out]; rfl, hB⟩
        · have hcut' : decide ((1844674407370955162 : Int) ≤ (v : Int)) = false := by rw [decide_eq_false_iff_not]; omega
          by_cases hbig : 18446744073709551616 ≤ v * 10 + d
          · have HF : Hid (puV V = .tuple #[.int .u64 18446744073709551615, .iface 77 (.int .i64 1)]) := Lib.hid (if_neg (by omega))
            have hw1 : IntKind.u64.wrap ((v : Int) * 10) = (v : Int) * 10 := by rw [IntKind.wrap_u64]; omega
            have hw2 : IntKind.u64.wrap ((v : Int) * 10 + (d : Int)) = (v : Int) * 10 + (d : Int) - 18446744073709551616 := by rw [IntKind.wrap_u64]; omega
            have hw3 : decide ((v : Int) * 10 + (d : Int) - 18446744073709551616 < (v : Int) * 10) = true := by rw [decide_eq_true_eq]; omega
            have HB := Lib.hid hbig
            clear hbig hge hdb
            go_wp2_with (first | (go_at_call 64; refine (HL.out _).mono ?_; rintro e w' ⟨rfl, rfl⟩))
            go_ret2
            exact ⟨by rw [HF.out]; rfl, hB⟩
          · have hw1 : IntKind.u64.wrap ((v : Int) * 10) = (v : Int) * 10 := by rw [IntKind.wrap_u64]; omega
            have hw2 : IntKind.u64.wrap ((v : Int) * 10 + (d : Int)) = (v : Int) * 10 + (d : Int) := by rw [IntKind.wrap_u64]; omega
            have hw3 : decide ((v : Int) * 10 + (d : Int) < (v : Int) * 10) = false := by rw [decide_eq_false_iff_not]; omega
            have hw4 : decide (18446744073709551615 < (v : Int) * 10 + (d : Int)) = false := by rw [decide_eq_false_iff_not]; omega
            have HB := Lib.hid hbig
            clear hbig hge hdb
            go_wp2_with (first | (go_at_call 64; refine (HL.out _).mono ?_; rintro e w' ⟨rfl, rfl⟩))
            exact ⟨⟨k + 1, v * 10 + d, by omega, rfl, by go_num, by go_num, by have := HB.out; omega, hsn⟩, by simp [intOf]; omega⟩
    · have hke : k = s.size := by omega
      subst hke
      have hvV : v = V := by
        have h1 := HK.out
        rw [List.take_of_length_le (by rw [bl_len]; exact Nat.le_refl _), HV.out] at h1
        exact (Option.some.inj h1).symm
      subst hvV
      have HF : Hid (puV v = .tuple #[.int .u64 (v : Int), .nilIface]) := Lib.hid (if_pos hv)
      clear HC
      go_wp2
      go_ret2
      exact ⟨by rw [HF.out]; rfl, hB⟩
set_option maxRecDepth 100000 in
set_option maxHeartbeats 2000000 in
theorem pu16 (s : ByteArray) (V : Nat) (w : World) (hs : s.size ≤ 1073741824) (h0 : s.size ≠ 0) (hV : valFrom true 0 (bl s) = some V) :
    Calls Tryd.prog 52 #[.string s, .int .i64 16, .int .i64 64] w fun e w' => e = .returned (puV V) ∧ Below w.heap.size w w' := by
  have e1 : s.toList.isEmpty = false := by
    rw [toList_bl, List.isEmpty_eq_false_iff]; exact fun e => h0 ((bl_size0 s).1 e)
  obtain ⟨W1, cap, hcv, hcell, hB⟩ := conv_bytes s w
  have hmx := max_wrap
  have HV := Lib.hid hV
  have HC := Lib.hid hcell
  clear hV hcell
  go_enter Tryd.func52, Tryd.ntmps52
  go_wp2
  clear hcv
  go_loop [12, 13, 101] (fun us n i => ∃ k v : Nat, k ≤ s.size ∧ us = .bool false ∧ i = .int .i64 k ∧ n = .int .u64 v ∧ v < 18446744073709551616 ∧ Hid (valFrom true 0 ((bl s).take k) = some v)) (fun _ _ i => s.size - (intOf i).toNat)
  case atStart => exact ⟨0, 0, by omega, rfl, rfl, rfl, by omega, Lib.hid rfl⟩
  case round =>
    obtain ⟨k, v, hk, rfl, rfl, rfl, hv, HK⟩ := hrel
    by_cases hlt : k < s.size
    · have hat := at_bl s k hlt
      have hc1 := HC.out k hlt
      have hlt1 : (k : Int) < (s.size : Int) := by omega
      generalize hch : s[k] = ch at *
      have HCH := Lib.hid hch
      have hrest : ∀ d, digVal true ch = some d → v * 16 + d ≤ V := fun d hd => by
        have h1 := val_snoc true (bl s) k v d ch hat HK.out hd
        have h2 := HV.out
        rw [← List.take_append_drop (k + 1) (bl s), valFrom_app, h1] at h2
        exact valFrom_ge true _ _ _ h2
      cases hdv : digVal true ch with
      | none =>
        have := val_bad true (bl s) k v ch hat HK.out hdv
        rw [HV.out] at this; cases this
      | some d =>
        have hge := hrest d hdv
        have hdb : d < 16 := digVal_lt true ch d hdv
        have hsn : Hid (valFrom true 0 ((bl s).take (k + 1)) = some (v * 16 + d)) := Lib.hid (val_snoc true (bl s) k v d ch hat HK.out hdv)
        have hcb := ch.toNat_lt
        have hcase : (48 ≤ ch.toNat ∧ ch.toNat ≤ 57 ∧ d = ch.toNat - 48) ∨ (((97 ≤ ch.toNat ∧ ch.toNat ≤ 102) ∨ (65 ≤ ch.toNat ∧ ch.toNat ≤ 70)) ∧ d = ch.toNat % 32 + 9) := by
          unfold digVal at hdv
          split at hdv
          · rename_i h; exact .inl ⟨h.1, h.2, (Option.some.inj hdv).symm⟩
          · split at hdv
            · rename_i h; have := Option.some.inj hdv; right; refine ⟨.inl ⟨h.2.1, h.2.2⟩, ?_⟩; omega
            · split at hdv
              · rename_i h; have := Option.some.inj hdv; right; refine ⟨.inr ⟨h.2.1, h.2.2⟩, ?_⟩; omega
              · cases hdv
        rcases hcase with ⟨hr1, hr2, hdd⟩ | ⟨hr, hdd⟩
        · have h95 : ((ch.toNat : Int) == 95) = false := by rw [beq_eq_false_iff_ne]; omega
          clear hrest hat HCH hdv
          have hd48 : IntKind.u8.wrap ((ch.toNat : Int) - 48) = (d : Int) := by rw [hdd]; simp [IntKind.wrap, IntKind.signed, IntKind.bits]; omega
          have HL := Lib.hid (lower_c ch)
          have hx1 : (48 : Int) ≤ (ch.toNat : Int) := by omega
          have hx2 : (ch.toNat : Int) ≤ 57 := by omega
          have hx3 : ¬ (16 : Int) ≤ (d : Int) := by omega
          have hx4 : (0 : Int) ≤ (d : Int) := by omega
          clear hdd hcb
          by_cases hcut : 1152921504606846976 ≤ v
          · have HF : Hid (puV V = .tuple #[.int .u64 18446744073709551615, .iface 77 (.int .i64 1)]) := Lib.hid (if_neg (by omega))
            have hcut' : decide ((1152921504606846976 : Int) ≤ (v : Int)) = true := by rw [decide_eq_true_eq]; omega
            go_wp2_with (first | (go_at_call 64; refine (HL.out _).mono ?_; rintro e w' ⟨rfl, rfl⟩))
            go_ret2
            exact ⟨by rw [HF.out]; rfl, hB⟩
          · have hcut' : decide ((1152921504606846976 : Int) ≤ (v : Int)) = false := by rw [decide_eq_false_iff_not]; omega
            by_cases hbig : 18446744073709551616 ≤ v * 16 + d
            · have HF : Hid (puV V = .tuple #[.int .u64 18446744073709551615, .iface 77 (.int .i64 1)]) := Lib.hid (if_neg (by omega))
              have hw1 : IntKind.u64.wrap ((v : Int) * 16) = (v : Int) * 16 := by rw [IntKind.wrap_u64]; omega
              have hw2 : IntKind.u64.wrap ((v : Int) * 16 + (d : Int)) = (v : Int) * 16 + (d : Int) - 18446744073709551616 := by rw [IntKind.wrap_u64]; omega
              have hw3 : decide ((v : Int) * 16 + (d : Int) - 18446744073709551616 < (v : Int) * 16) = true := by rw [decide_eq_true_eq]; omega
              have HB := Lib.hid hbig
              clear hbig hge hdb
              go_wp2_with (first | (go_at_call 64; refine (HL.out _).mono ?_; rintro e w' ⟨rfl, rfl⟩))
              go_ret2
              exact ⟨by rw [HF.out]; rfl, hB⟩
            · have hw1 : IntKind.u64.wrap ((v : Int) * 16) = (v : Int) * 16 := by rw [IntKind.wrap_u64]; omega
              have hw2 : IntKind.u64.wrap ((v : Int) * 16 + (d : Int)) = (v : Int) * 16 + (d : Int) := by rw [IntKind.wrap_u64]; omega
              have hw3 : decide ((v : Int) * 16 + (d : Int) < (v : Int) * 16) = false := by rw [decide_eq_false_iff_not]; omega
              have hw4 : decide (18446744073709551615 < (v : Int) * 16 + (d : Int)) = false := by rw [decide_eq_false_iff_not]; omega
              have HB := Lib.hid hbig
              clear hbig hge hdb
              go_wp2_with (first | (go_at_call 64; refine (HL.out _).mono ?_; rintro e w' ⟨rfl, rfl⟩))
              exact ⟨⟨k + 1, v * 16 + d, by omega, rfl, by go_num, by go_num, by have := HB.out; omega, hsn⟩, by simp [intOf]; omega⟩
        · have hl := lower_hex ⟨ch.toNat, hcb⟩ hr
          simp only [] at hl
          have h95 : ((ch.toNat : Int) == 95) = false := by rw [beq_eq_false_iff_ne]; omega
          obtain ⟨d0, rfl⟩ : ∃ d0, d = d0 + 10 := ⟨d - 10, by omega⟩
          have hlc := lower_c ch
          rw [hl, show ((ch.toNat % 32 + 96 : Nat) : Int) = (d0 : Int) + 97 by omega] at hlc
          have HL := Lib.hid hlc
          have hx0 : (48 : Int) ≤ (ch.toNat : Int) := by omega
          have hx2 : ¬ (ch.toNat : Int) ≤ 57 := by omega
          have hx3 : ¬ (16 : Int) ≤ (d0 : Int) + 10 := by omega
          have hx5 : (d0 : Int) ≤ 5 := by omega
          have hx4 : (0 : Int) ≤ (d0 : Int) := by omega
          have hx6 : (97 : Int) ≤ (d0 : Int) + 97 := by omega
          have hx7 : (d0 : Int) + 97 ≤ 122 := by omega
          clear hrest hat HCH hdv hl hlc hr hdd hcb
          by_cases hcut : 1152921504606846976 ≤ v
          · have HF : Hid (puV V = .tuple #[.int .u64 18446744073709551615, .iface 77 (.int .i64 1)]) := Lib.hid (if_neg (by omega))
            have hcut' : decide ((1152921504606846976 : Int) ≤ (v : Int)) = true := by rw [decide_eq_true_eq]; omega
            go_wp2_with (first | (go_at_call 64; refine (HL.out _).mono ?_; rintro e w' ⟨rfl, rfl⟩))
            go_ret2
            exact ⟨by rw [HF.out]; rfl, hB⟩
          · have hcut' : decide ((1152921504606846976 : Int) ≤ (v : Int)) = false := by rw [decide_eq_false_iff_not]; omega
            by_cases hbig : 18446744073709551616 ≤ v * 16 + (d0 + 10)
            · have HF : Hid (puV V = .tuple #[.int .u64 18446744073709551615, .iface 77 (.int .i64 1)]) := Lib.hid (if_neg (by omega))
              have hw1 : IntKind.u64.wrap ((v : Int) * 16) = (v : Int) * 16 := by rw [IntKind.wrap_u64]; omega
              have hw2 : IntKind.u64.wrap ((v : Int) * 16 + ((d0 : Int) + 10)) = (v : Int) * 16 + ((d0 : Int) + 10) - 18446744073709551616 := by rw [IntKind.wrap_u64]; omega
              have hw3 : decide ((v : Int) * 16 + ((d0 : Int) + 10) - 18446744073709551616 < (v : Int) * 16) = true := by rw [decide_eq_true_eq]; omega
              have HB := Lib.hid hbig
              clear hbig hge hdb
              go_wp2_with (first | (go_at_call 64; refine (HL.out _).mono ?_; rintro e w' ⟨rfl, rfl⟩))
              go_ret2
              exact ⟨by rw [HF.out]; rfl, hB⟩
            · have hw1 : IntKind.u64.wrap ((v : Int) * 16) = (v : Int) * 16 := by rw [IntKind.wrap_u64]; omega
              have hw2 : IntKind.u64.wrap ((v : Int) * 16 + ((d0 : Int) + 10)) = (v : Int) * 16 + ((d0 : Int) + 10) := by rw [IntKind.wrap_u64]; omega
              have hw3 : decide ((v : Int) * 16 + ((d0 : Int) + 10) < (v : Int) * 16) = false := by rw [decide_eq_false_iff_not]; omega
              have hw4 : decide (18446744073709551615 < (v : Int) * 16 + ((d0 : Int) + 10)) = false := by rw [decide_eq_false_iff_not]; omega
              have HB := Lib.hid hbig
              clear hbig hge hdb
              go_wp2_with (first | (go_at_call 64; refine (HL.out _).mono ?_; rintro e w' ⟨rfl, rfl⟩))
              exact ⟨⟨k + 1, v * 16 + (d0 + 10), by omega, rfl, by go_num, v_int (by omega), by have := HB.out; omega, hsn⟩, by simp [intOf]; omega⟩
    · have hke : k = s.size := by omega
      subst hke
      have hvV : v = V := by
        have h1 := HK.out
        rw [List.take_of_length_le (by rw [bl_len]; exact Nat.le_refl _), HV.out] at h1
        exact (Option.some.inj h1).symm
      subst hvV
      have HF : Hid (puV v = .tuple #[.int .u64 (v : Int), .nilIface]) := Lib.hid (if_pos hv)
      clear HC
      go_wp2
      go_ret2
      exact ⟨by rw [HF.out]; rfl, hB⟩
end Go.Proofs.YtihdjofihdgigaaDoor
