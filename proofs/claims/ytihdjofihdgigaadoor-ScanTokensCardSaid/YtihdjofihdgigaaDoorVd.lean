/- Contract of the reference's Number: the value of a number's digits, or why there is none. -/
import Derived.Test.YtihdjofihdgigaaDoorVc
namespace Go.Proofs.YtihdjofihdgigaaDoor
open Go.RowKit
set_option linter.unusedSimpArgs false
set_option linter.unusedVariables false

theorem at_bl (s : ByteArray) (k : Nat) (h : k < s.size) : (bl s)[k]? = some s[k] := by
  unfold bl
  rw [List.getElem?_eq_getElem (by simpa using h)]; rfl
def NumInv (lg : Bool) (m V : Nat) : Prop := (lg = false ∧ m = V ∧ V < 18446744073709551616) ∨ (lg = true ∧ 18446744073709551616 ≤ V ∧ m < 18446744073709551616)
/-- one round of the reference's loop -/
theorem num_round (b d V n : Nat) (large : Bool) (hb : b = 10 ∨ b = 16) (hd : d < b)
    (hi : (large = false ∧ n = V ∧ V < 18446744073709551616) ∨ (large = true ∧ 18446744073709551616 ≤ V ∧ n < 18446744073709551616)) :
    if (18446744073709551615 - d) / b < n then
      (18446744073709551616 ≤ V * b + d) ∧ d < 18446744073709551616
    else n * b + d < 18446744073709551616 ∧ ((large = false ∧ n * b + d = V * b + d ∧ V * b + d < 18446744073709551616) ∨ (large = true ∧ 18446744073709551616 ≤ V * b + d)) := by
  rcases hb with rfl | rfl <;> split <;> rcases hi with ⟨h1, h2, h3⟩ | ⟨h1, h2, h3⟩ <;> (try subst h2) <;> refine ⟨?_, ?_⟩ <;> first | omega | (left; exact ⟨h1, rfl, by omega⟩) | (right; exact ⟨h1, by omega⟩)

set_option maxHeartbeats 1000000 in
theorem rnum_dec (s : ByteArray) (w : World) (hs : s.size ≤ 1073741824) (hz : badZero (bl s) = false) (hx : isHex (bl s) = false) : Calls Tryd.prog 17 #[.string s] w fun e w' => e = .returned (.tuple #[.int .u64 ((numP (bl s)).1 : Int), .int .i64 (numP (bl s)).2]) ∧ w = w' := by
  have hx0 : isHex (bl s) = false := by
    exact hx
  have hD : digitsOf (bl s) = bl s := by simp [digitsOf, hx0]
  have hok : isHex (bl s) = true ∨ badZero (bl s) = false := .inr hz
  have hnz : ∀ h : 2 ≤ s.size, ¬ ((s[0].toNat : Int) = 48) := fun h e => by
    rw [badZero_iff, at_bl s 0 (by omega), bl_len] at hz
    have : s[0] = 48 := by apply UInt8.toNat_inj.1; show _ = 48; omega
    rw [this] at hz
    simp at hz; omega
  clear hz
  by_cases he : s.size = 0
  · have hr := numP_empty (bl s) (by rw [hD]; exact (bl_size0 s).2 he)
    rw [hr]
    have he' : ((0 : Int) == (s.size : Int)) = true := by rw [he]; rfl
    have g2 : ¬ (2 : Int) ≤ (s.size : Int) := by omega
    clear hr hnz
    go_enter Tryd.func17, Tryd.ntmps17
    go_wp2
    go_ret2
    exact ⟨rfl, rfl⟩
  · have he' : ((0 : Int) == (s.size : Int)) = false := by rw [beq_eq_false_iff_ne]; omega
    by_cases h2 : 2 ≤ s.size
    · have g0 := hnz h2
      have g0' : ((s[0].toNat : Int) == 48) = false := by rw [beq_eq_false_iff_ne]; exact g0
      have g2 : (2 : Int) ≤ (s.size : Int) := by omega
      clear hnz
      go_enter Tryd.func17, Tryd.ntmps17
      go_wp2
      go_loop [6, 7, 8] (fun n large i => ∃ (j V m : Nat) (lg : Bool), j ≤ s.size ∧ i = .int .i64 ((j : Nat) : Int) ∧ n = .int .u64 (m : Int) ∧ large = .bool lg ∧ Hid (valFrom false 0 ((bl s).take j) = some V) ∧ Hid (NumInv lg m V)) (fun _ _ i => s.size - (intOf i).toNat)
      case atStart => exact ⟨0, 0, 0, false, by omega, rfl, rfl, rfl, Lib.hid rfl, Lib.hid (.inl ⟨rfl, rfl, by omega⟩)⟩
      case round =>
        obtain ⟨j, V, m, lg, hj, rfl, rfl, rfl, HV, HI⟩ := hrel
        have hm : m < 18446744073709551616 := by rcases HI.out with h | h <;> omega
        by_cases hlt : j < s.size
        · have hat : (bl s)[j]? = some s[j] := by exact at_bl s _ hlt
          generalize hch : s[j] = ch at *
          have HCH := Lib.hid hch
          cases hdv : digVal false ch with
          | none =>
            have hr := numP_bad (bl s) (by rw [hx0, hD]; exact val_bad false _ j V _ hat HV.out hdv)
            have hc : digI false ch = -1 := by simp [digI, hdv]
            have hcall := Lib.hid (fun w => rvalue10_any ch w)
            rw [hc] at hcall
            have HR := Lib.hid hr
            clear hr hc hat hdv HCH
            go_wp2_with (go_at_call 34; refine (hcall.out _).mono ?_; rintro e w' ⟨rfl, rfl⟩)
            go_ret2
            exact ⟨ret_two (v_int (by rw [HR.out]; try rfl)) (v_int (by rw [HR.out]; try rfl)), rfl⟩
          | some d =>
            have hd := digVal_lt false _ d hdv
            have hdb : d < 10 := hd
            have hV2 : Hid (valFrom false 0 ((bl s).take (j + 1)) = some (V * 10 + d)) := Lib.hid (val_snoc false _ j V d _ hat HV.out hdv)
            have hc : digI false ch = d := by simp [digI, hdv]
            have hcall := Lib.hid (fun w => rvalue10_any ch w)
            rw [hc] at hcall
            have hround := num_round 10 d V m lg (by omega) hdb HI.out
            clear hc hat hdv hd HCH
            by_cases hbig : (18446744073709551615 - d) / 10 < m
            · rw [if_pos hbig] at hround
              have hI2 : Hid (NumInv true d (V * 10 + d)) := Lib.hid (.inr ⟨rfl, hround.1, hround.2⟩)
              clear hround
              have hbig' : (18446744073709551615 - (d : Int)) / 10 < (m : Int) := by omega
              clear hbig
              go_wp2_with (go_at_call 34; refine (hcall.out _).mono ?_; rintro e w' ⟨rfl, rfl⟩)
              exact ⟨⟨j + 1, V * 10 + d, d, true, by omega, by go_num, rfl, rfl, hV2, hI2⟩, by simp [intOf]; omega⟩
            · rw [if_neg hbig] at hround
              have hlt2 : m * 10 + d < 18446744073709551616 := hround.1
              have hI2 : Hid (NumInv lg (m * 10 + d) (V * 10 + d)) := Lib.hid (by
                rcases hround.2 with h | h
                · exact .inl h
                · exact .inr ⟨h.1, h.2, hlt2⟩)
              clear hround
              have hbig' : ¬ (18446744073709551615 - (d : Int)) / 10 < (m : Int) := by omega
              clear hbig
              have hw1 : IntKind.u64.wrap (IntKind.u64.wrap ((m : Int) * 10) + (d : Int)) = ((m * 10 + d : Nat) : Int) := by rw [IntKind.wrap_u64, IntKind.wrap_u64]; omega
              go_wp2_with (go_at_call 34; refine (hcall.out _).mono ?_; rintro e w' ⟨rfl, rfl⟩)
              exact ⟨⟨j + 1, V * 10 + d, m * 10 + d, lg, by omega, by go_num, by go_num, rfl, hV2, hI2⟩, by simp [intOf]; omega⟩
        · have hend : valFrom false 0 (bl s) = some V := by
            have := HV.out
            rwa [List.take_of_length_le (by rw [bl_len]; omega)] at this
          have hr := numP_ok (bl s) V (by rw [hx0, hD]; exact hend) hok (by rw [hD]; intro h; exact he (by rw [← bl_len, h]; rfl))
          cases lg
          · have h1 : m = V ∧ V < 18446744073709551616 := by rcases HI.out with h | h; exact ⟨h.2.1, h.2.2⟩; cases h.1
            rw [if_pos h1.2, ← h1.1] at hr
            have HR := Lib.hid hr
            clear hr hend h1
            go_wp2
            go_ret2
            exact ⟨ret_two (v_int (by rw [HR.out]; try rfl)) (v_int (by rw [HR.out]; try rfl)), rfl⟩
          · have h1 : ¬ V < 18446744073709551616 := by rcases HI.out with h | h; cases h.1; omega
            rw [if_neg h1] at hr
            have HR := Lib.hid hr
            clear hr hend h1
            go_wp2
            go_ret2
            exact ⟨ret_two (v_int (by rw [HR.out]; try rfl)) (v_int (by rw [HR.out]; try rfl)), rfl⟩

    · have g2 : ¬ (2 : Int) ≤ (s.size : Int) := by omega
      clear hnz
      go_enter Tryd.func17, Tryd.ntmps17
      go_wp2
      go_loop [6, 7, 8] (fun n large i => ∃ (j V m : Nat) (lg : Bool), j ≤ s.size ∧ i = .int .i64 ((j : Nat) : Int) ∧ n = .int .u64 (m : Int) ∧ large = .bool lg ∧ Hid (valFrom false 0 ((bl s).take j) = some V) ∧ Hid (NumInv lg m V)) (fun _ _ i => s.size - (intOf i).toNat)
      case atStart => exact ⟨0, 0, 0, false, by omega, rfl, rfl, rfl, Lib.hid rfl, Lib.hid (.inl ⟨rfl, rfl, by omega⟩)⟩
      case round =>
        obtain ⟨j, V, m, lg, hj, rfl, rfl, rfl, HV, HI⟩ := hrel
        have hm : m < 18446744073709551616 := by rcases HI.out with h | h <;> omega
        by_cases hlt : j < s.size
        · have hat : (bl s)[j]? = some s[j] := by exact at_bl s _ hlt
          generalize hch : s[j] = ch at *
          have HCH := Lib.hid hch
          cases hdv : digVal false ch with
          | none =>
            have hr := numP_bad (bl s) (by rw [hx0, hD]; exact val_bad false _ j V _ hat HV.out hdv)
            have hc : digI false ch = -1 := by simp [digI, hdv]
            have hcall := Lib.hid (fun w => rvalue10_any ch w)
            rw [hc] at hcall
            have HR := Lib.hid hr
            clear hr hc hat hdv HCH
            go_wp2_with (go_at_call 34; refine (hcall.out _).mono ?_; rintro e w' ⟨rfl, rfl⟩)
            go_ret2
            exact ⟨ret_two (v_int (by rw [HR.out]; try rfl)) (v_int (by rw [HR.out]; try rfl)), rfl⟩
          | some d =>
            have hd := digVal_lt false _ d hdv
            have hdb : d < 10 := hd
            have hV2 : Hid (valFrom false 0 ((bl s).take (j + 1)) = some (V * 10 + d)) := Lib.hid (val_snoc false _ j V d _ hat HV.out hdv)
            have hc : digI false ch = d := by simp [digI, hdv]
            have hcall := Lib.hid (fun w => rvalue10_any ch w)
            rw [hc] at hcall
            have hround := num_round 10 d V m lg (by omega) hdb HI.out
            clear hc hat hdv hd HCH
            by_cases hbig : (18446744073709551615 - d) / 10 < m
            · rw [if_pos hbig] at hround
              have hI2 : Hid (NumInv true d (V * 10 + d)) := Lib.hid (.inr ⟨rfl, hround.1, hround.2⟩)
              clear hround
              have hbig' : (18446744073709551615 - (d : Int)) / 10 < (m : Int) := by omega
              clear hbig
              go_wp2_with (go_at_call 34; refine (hcall.out _).mono ?_; rintro e w' ⟨rfl, rfl⟩)
              exact ⟨⟨j + 1, V * 10 + d, d, true, by omega, by go_num, rfl, rfl, hV2, hI2⟩, by simp [intOf]; omega⟩
            · rw [if_neg hbig] at hround
              have hlt2 : m * 10 + d < 18446744073709551616 := hround.1
              have hI2 : Hid (NumInv lg (m * 10 + d) (V * 10 + d)) := Lib.hid (by
                rcases hround.2 with h | h
                · exact .inl h
                · exact .inr ⟨h.1, h.2, hlt2⟩)
              clear hround
              have hbig' : ¬ (18446744073709551615 - (d : Int)) / 10 < (m : Int) := by omega
              clear hbig
              have hw1 : IntKind.u64.wrap (IntKind.u64.wrap ((m : Int) * 10) + (d : Int)) = ((m * 10 + d : Nat) : Int) := by rw [IntKind.wrap_u64, IntKind.wrap_u64]; omega
              go_wp2_with (go_at_call 34; refine (hcall.out _).mono ?_; rintro e w' ⟨rfl, rfl⟩)
              exact ⟨⟨j + 1, V * 10 + d, m * 10 + d, lg, by omega, by go_num, by go_num, rfl, hV2, hI2⟩, by simp [intOf]; omega⟩
        · have hend : valFrom false 0 (bl s) = some V := by
            have := HV.out
            rwa [List.take_of_length_le (by rw [bl_len]; omega)] at this
          have hr := numP_ok (bl s) V (by rw [hx0, hD]; exact hend) hok (by rw [hD]; intro h; exact he (by rw [← bl_len, h]; rfl))
          cases lg
          · have h1 : m = V ∧ V < 18446744073709551616 := by rcases HI.out with h | h; exact ⟨h.2.1, h.2.2⟩; cases h.1
            rw [if_pos h1.2, ← h1.1] at hr
            have HR := Lib.hid hr
            clear hr hend h1
            go_wp2
            go_ret2
            exact ⟨ret_two (v_int (by rw [HR.out]; try rfl)) (v_int (by rw [HR.out]; try rfl)), rfl⟩
          · have h1 : ¬ V < 18446744073709551616 := by rcases HI.out with h | h; cases h.1; omega
            rw [if_neg h1] at hr
            have HR := Lib.hid hr
            clear hr hend h1
            go_wp2
            go_ret2
            exact ⟨ret_two (v_int (by rw [HR.out]; try rfl)) (v_int (by rw [HR.out]; try rfl)), rfl⟩

set_option maxHeartbeats 1000000 in
theorem rnum_hex (s : ByteArray) (w : World) (hs : s.size ≤ 1073741824) (h2 : 2 ≤ s.size) (h0 : s[0] = 48) (h1 : s[1] = 120) : Calls Tryd.prog 17 #[.string s] w fun e w' => e = .returned (.tuple #[.int .u64 ((numP (bl s)).1 : Int), .int .i64 (numP (bl s)).2]) ∧ w = w' := by
  have hx0 : isHex (bl s) = true := by
    rw [isHex_iff, at_bl s 0 (by omega), at_bl s 1 (by omega), h0, h1, bl_len]; simp; omega
  have hD : digitsOf (bl s) = (bl s).drop 2 := by simp [digitsOf, hx0]
  have hok : isHex (bl s) = true ∨ badZero (bl s) = false := .inl hx0
  have g0 : (s[0].toNat : Int) = 48 := by rw [h0]; rfl
  have g1 : (s[1].toNat : Int) = 120 := by rw [h1]; rfl
  have g2 : (2 : Int) ≤ (s.size : Int) := by omega
  clear h0 h1
  by_cases he : s.size = 2
  · have hr := numP_empty (bl s) (by rw [hD, List.drop_eq_nil_iff, bl_len]; omega)
    rw [hr]
    have he' : ((2 : Int) == (s.size : Int)) = true := by rw [he]; rfl
    clear hr
    go_enter Tryd.func17, Tryd.ntmps17
    go_wp2
    go_ret2
    exact ⟨rfl, rfl⟩
  · have he' : ((2 : Int) == (s.size : Int)) = false := by rw [beq_eq_false_iff_ne]; omega
    go_enter Tryd.func17, Tryd.ntmps17
    go_wp2
    go_loop [6, 7, 8] (fun n large i => ∃ (j V m : Nat) (lg : Bool), 2 + j ≤ s.size ∧ i = .int .i64 ((2 + j : Nat) : Int) ∧ n = .int .u64 (m : Int) ∧ large = .bool lg ∧ Hid (valFrom true 0 (((bl s).drop 2).take j) = some V) ∧ Hid (NumInv lg m V)) (fun _ _ i => s.size - (intOf i).toNat)
    case atStart => exact ⟨0, 0, 0, false, by omega, rfl, rfl, rfl, Lib.hid rfl, Lib.hid (.inl ⟨rfl, rfl, by omega⟩)⟩
    case round =>
      obtain ⟨j, V, m, lg, hj, rfl, rfl, rfl, HV, HI⟩ := hrel
      have hm : m < 18446744073709551616 := by rcases HI.out with h | h <;> omega
      by_cases hlt : 2 + j < s.size
      · have hat : ((bl s).drop 2)[j]? = some s[2 + j] := by rw [List.getElem?_drop]; exact at_bl s _ hlt
        generalize hch : s[2 + j] = ch at *
        have HCH := Lib.hid hch
        cases hdv : digVal true ch with
        | none =>
          have hr := numP_bad (bl s) (by rw [hx0, hD]; exact val_bad true _ j V _ hat HV.out hdv)
          have hc : digI true ch = -1 := by simp [digI, hdv]
          have hcall := Lib.hid (fun w => rvalue16_any ch w)
          rw [hc] at hcall
          have HR := Lib.hid hr
          clear hr hc hat hdv HCH
          go_wp2_with (go_at_call 34; refine (hcall.out _).mono ?_; rintro e w' ⟨rfl, rfl⟩)
          go_ret2
          exact ⟨ret_two (v_int (by rw [HR.out]; try rfl)) (v_int (by rw [HR.out]; try rfl)), rfl⟩
        | some d =>
          have hd := digVal_lt true _ d hdv
          have hdb : d < 16 := hd
          have hV2 : Hid (valFrom true 0 (((bl s).drop 2).take (j + 1)) = some (V * 16 + d)) := Lib.hid (val_snoc true _ j V d _ hat HV.out hdv)
          have hc : digI true ch = d := by simp [digI, hdv]
          have hcall := Lib.hid (fun w => rvalue16_any ch w)
          rw [hc] at hcall
          have hround := num_round 16 d V m lg (by omega) hdb HI.out
          clear hc hat hdv hd HCH
          by_cases hbig : (18446744073709551615 - d) / 16 < m
          · rw [if_pos hbig] at hround
            have hI2 : Hid (NumInv true d (V * 16 + d)) := Lib.hid (.inr ⟨rfl, hround.1, hround.2⟩)
            clear hround
            have hbig' : (18446744073709551615 - (d : Int)) / 16 < (m : Int) := by omega
            clear hbig
            go_wp2_with (go_at_call 34; refine (hcall.out _).mono ?_; rintro e w' ⟨rfl, rfl⟩)
            exact ⟨⟨j + 1, V * 16 + d, d, true, by omega, by go_num, rfl, rfl, hV2, hI2⟩, by simp [intOf]; omega⟩
          · rw [if_neg hbig] at hround
            have hlt2 : m * 16 + d < 18446744073709551616 := hround.1
            have hI2 : Hid (NumInv lg (m * 16 + d) (V * 16 + d)) := Lib.hid (by
              rcases hround.2 with h | h
              · exact .inl h
              · exact .inr ⟨h.1, h.2, hlt2⟩)
            clear hround
            have hbig' : ¬ (18446744073709551615 - (d : Int)) / 16 < (m : Int) := by omega
            clear hbig
            have hw1 : IntKind.u64.wrap (IntKind.u64.wrap ((m : Int) * 16) + (d : Int)) = ((m * 16 + d : Nat) : Int) := by rw [IntKind.wrap_u64, IntKind.wrap_u64]; omega
            go_wp2_with (go_at_call 34; refine (hcall.out _).mono ?_; rintro e w' ⟨rfl, rfl⟩)
            exact ⟨⟨j + 1, V * 16 + d, m * 16 + d, lg, by omega, by go_num, by go_num, rfl, hV2, hI2⟩, by simp [intOf]; omega⟩
      · have hend : valFrom true 0 ((bl s).drop 2) = some V := by
          have := HV.out
          rwa [List.take_of_length_le (by rw [List.length_drop, bl_len]; omega)] at this
        have hr := numP_ok (bl s) V (by rw [hx0, hD]; exact hend) hok (by rw [hD]; intro h; rw [List.drop_eq_nil_iff, bl_len] at h; omega)
        cases lg
        · have h1 : m = V ∧ V < 18446744073709551616 := by rcases HI.out with h | h; exact ⟨h.2.1, h.2.2⟩; cases h.1
          rw [if_pos h1.2, ← h1.1] at hr
          have HR := Lib.hid hr
          clear hr hend h1
          go_wp2
          go_ret2
          exact ⟨ret_two (v_int (by rw [HR.out]; try rfl)) (v_int (by rw [HR.out]; try rfl)), rfl⟩
        · have h1 : ¬ V < 18446744073709551616 := by rcases HI.out with h | h; cases h.1; omega
          rw [if_neg h1] at hr
          have HR := Lib.hid hr
          clear hr hend h1
          go_wp2
          go_ret2
          exact ⟨ret_two (v_int (by rw [HR.out]; try rfl)) (v_int (by rw [HR.out]; try rfl)), rfl⟩

/-- two digits ahead that are no number -/
theorem rnum_zero (s : ByteArray) (w : World) (h2 : 2 ≤ s.size) (h0 : s[0] = 48) (h1 : ¬ s[1] = 120) : Calls Tryd.prog 17 #[.string s] w fun e w' => e = .returned (.tuple #[.int .u64 ((numP (bl s)).1 : Int), .int .i64 (numP (bl s)).2]) ∧ w = w' := by
  have hx : isHex (bl s) = false := by rw [isHex_iff, at_bl s 0 (by omega), at_bl s 1 (by omega)]; simp [h1]
  have hz : badZero (bl s) = true := by rw [badZero_iff, at_bl s 0 (by omega), h0, bl_len]; simp; omega
  rw [numP_zero (bl s) hx hz]
  have g0 : ((s[0].toNat : Int) == 48) = true := by rw [h0]; rfl
  have g1 : ((s[1].toNat : Int) != 120) = true := by
    rw [bne_iff_ne]; intro h; apply h1; apply UInt8.toNat_inj.1; show _ = 120; omega
  have g2 : (2 : Int) ≤ (s.size : Int) := by omega
  clear h0 h1 hx hz
  go_enter Tryd.func17, Tryd.ntmps17
  go_wp2
  go_ret2
  exact ⟨rfl, rfl⟩
theorem rnumber_any (s : ByteArray) (w : World) (hs : s.size ≤ 1073741824) : Calls Tryd.prog 17 #[.string s] w fun e w' => e = .returned (.tuple #[.int .u64 ((numP (bl s)).1 : Int), .int .i64 (numP (bl s)).2]) ∧ w = w' := by
  by_cases h2 : 2 ≤ s.size
  · by_cases h0 : s[0] = 48
    · by_cases h1 : s[1] = 120
      · exact rnum_hex s w hs h2 h0 h1
      · exact rnum_zero s w h2 h0 h1
    · exact rnum_dec s w hs (by rw [badZero_iff, at_bl s 0 (by omega)]; simp [h0]) (by rw [isHex_iff, at_bl s 0 (by omega)]; simp [h0])
  · exact rnum_dec s w hs (by rw [badZero_iff, bl_len]; simp [h2]) (by rw [isHex_iff, bl_len]; simp [h2])
end Go.Proofs.YtihdjofihdgigaaDoor
