/- Contracts of strconv.ParseUint at digits, and of scan.Number: a number's value, or why there is none. -/
import Derived.Test.YtihdjofihdgigaaDoorUg
namespace Go.Proofs.YtihdjofihdgigaaDoor
open Go.RowKit
set_option linter.unusedSimpArgs false
set_option linter.unusedVariables false


theorem spu10_ok (s : ByteArray) (V : Nat) (w : World) (hs : s.size ≤ 1073741824) (h0 : s.size ≠ 0) (hV : valFrom false 0 (bl s) = some V) (hlt : V < 18446744073709551616) :
    Calls Tryd.prog 33 #[.string s, .int .i64 10, .int .i64 64] w fun e w' => e = .returned (.tuple #[.int .u64 (V : Int), .nilIface]) ∧ Below w.heap.size w w' := by
  have hc := pu10 s V w hs h0 hV
  rw [show puV V = _ from if_pos hlt] at hc
  have HC := Lib.hid hc
  clear hc hV hlt h0
  go_enter Tryd.func33, Tryd.ntmps33
  go_wp2_with fail
  refine HC.out.mono ?_
  rintro e w1 ⟨rfl, hw⟩
  go_wp2
  go_ret2
  exact ⟨rfl, hw⟩
theorem spu10_range (s : ByteArray) (V : Nat) (w : World) (h : Laid w) (hs : s.size ≤ 1073741824) (h0 : s.size ≠ 0) (hV : valFrom false 0 (bl s) = some V) (hlt : ¬ V < 18446744073709551616) :
    Calls Tryd.prog 33 #[.string s, .int .i64 10, .int .i64 64] w fun e w' => (∃ N : Nat, e = .returned (.tuple #[.int .u64 18446744073709551615, .iface 79 (.pointer (some ⟨N, 0, none⟩))])) ∧ Below w.heap.size w w' := by
  have hc := pu10 s V w hs h0 hV
  rw [show puV V = _ from if_neg hlt] at hc
  have HC := Lib.hid hc
  clear hc hV hlt h0
  go_enter Tryd.func33, Tryd.ntmps33
  go_wp2_with fail
  refine HC.out.mono ?_
  rintro e w1 ⟨rfl, hw⟩
  obtain ⟨ev, hr, hev⟩ := (h.below hw).range
  go_wp2_with fail
  refine (Tryd.strconv_toError_range _ s 10 64 _ w1 (by omega) hr hev).mono ?_
  rintro e w2 ⟨N, rfl, -, -, hw2⟩
  have hB := below_two hw hw2
  clear hw hw2 hr
  go_wp2
  go_ret2
  exact ⟨⟨N, rfl⟩, hB⟩

theorem spu16_ok (s : ByteArray) (V : Nat) (w : World) (hs : s.size ≤ 1073741824) (h0 : s.size ≠ 0) (hV : valFrom true 0 (bl s) = some V) (hlt : V < 18446744073709551616) :
    Calls Tryd.prog 33 #[.string s, .int .i64 16, .int .i64 64] w fun e w' => e = .returned (.tuple #[.int .u64 (V : Int), .nilIface]) ∧ Below w.heap.size w w' := by
  have hc := pu16 s V w hs h0 hV
  rw [show puV V = _ from if_pos hlt] at hc
  have HC := Lib.hid hc
  clear hc hV hlt h0
  go_enter Tryd.func33, Tryd.ntmps33
  go_wp2_with fail
  refine HC.out.mono ?_
  rintro e w1 ⟨rfl, hw⟩
  go_wp2
  go_ret2
  exact ⟨rfl, hw⟩
theorem spu16_range (s : ByteArray) (V : Nat) (w : World) (h : Laid w) (hs : s.size ≤ 1073741824) (h0 : s.size ≠ 0) (hV : valFrom true 0 (bl s) = some V) (hlt : ¬ V < 18446744073709551616) :
    Calls Tryd.prog 33 #[.string s, .int .i64 16, .int .i64 64] w fun e w' => (∃ N : Nat, e = .returned (.tuple #[.int .u64 18446744073709551615, .iface 79 (.pointer (some ⟨N, 0, none⟩))])) ∧ Below w.heap.size w w' := by
  have hc := pu16 s V w hs h0 hV
  rw [show puV V = _ from if_neg hlt] at hc
  have HC := Lib.hid hc
  clear hc hV hlt h0
  go_enter Tryd.func33, Tryd.ntmps33
  go_wp2_with fail
  refine HC.out.mono ?_
  rintro e w1 ⟨rfl, hw⟩
  obtain ⟨ev, hr, hev⟩ := (h.below hw).range
  go_wp2_with fail
  refine (Tryd.strconv_toError_range _ s 16 64 _ w1 (by omega) hr hev).mono ?_
  rintro e w2 ⟨N, rfl, -, -, hw2⟩
  have hB := below_two hw hw2
  clear hw hw2 hr
  go_wp2
  go_ret2
  exact ⟨⟨N, rfl⟩, hB⟩

theorem pre_hex (l : List UInt8) : preP [48, 120] l = isHex l := by
  rw [isHex_iff]
  unfold preP
  match l with
  | [] => rfl
  | [a] => simp [List.isPrefixOf]
  | a :: b :: m =>
    by_cases ha : a = 48
    · by_cases hb : b = 120
      · subst ha hb; simp [List.isPrefixOf]
      · have hb1 : (b == 120) = false := beq_eq_false_iff_ne.2 hb
        have hb2 : (120 == b) = false := beq_eq_false_iff_ne.2 (fun e => hb e.symm)
        subst ha; simp [List.isPrefixOf, hb1, hb2]
    · have ha1 : (a == 48) = false := beq_eq_false_iff_ne.2 ha
      have ha2 : (48 == a) = false := beq_eq_false_iff_ne.2 (fun e => ha e.symm)
      simp [List.isPrefixOf, ha1, ha2]
theorem dig_dec (c : UInt8) : (digVal false c).isSome = isDig (c.toNat : Int) := by
  unfold digVal isDig
  by_cases h : 48 ≤ c.toNat ∧ c.toNat ≤ 57
  · rw [if_pos h]; simp; omega
  · rw [if_neg h]; simp; omega
theorem hexl_iff (c : UInt8) : isHexL c = decide ((97 ≤ c.toNat ∧ c.toNat ≤ 102) ∨ (65 ≤ c.toNat ∧ c.toNat ≤ 70)) := by
  have h : ∀ x : Fin 256, isHexL (UInt8.ofNat x.val) = decide ((97 ≤ x.val ∧ x.val ≤ 102) ∨ (65 ≤ x.val ∧ x.val ≤ 70)) := by decide +kernel
  have := h ⟨c.toNat, c.toNat_lt⟩
  simpa using this
theorem dig_hex (c : UInt8) : (digVal true c).isSome = (isDig (c.toNat : Int) || isHexL c) := by
  rw [hexl_iff]
  unfold digVal isDig
  by_cases h : 48 ≤ c.toNat ∧ c.toNat ≤ 57
  · rw [if_pos h]; simp; omega
  · rw [if_neg h]
    by_cases h2 : 97 ≤ c.toNat ∧ c.toNat ≤ 102
    · rw [if_pos ⟨rfl, h2⟩]; simp; omega
    · rw [if_neg (by simpa using h2)]
      by_cases h3 : 65 ≤ c.toNat ∧ c.toNat ≤ 70
      · rw [if_pos ⟨rfl, h3⟩]; simp; omega
      · rw [if_neg (by simpa using h3)]; simp; omega

set_option maxRecDepth 100000 in
set_option maxHeartbeats 1000000 in
theorem num_dec (s : ByteArray) (w : World) (h : Laid w) (hs : s.size ≤ 1073741824) (hz : badZero (bl s) = false) (hx : isHex (bl s) = false) : Calls Tryd.prog 16 #[.string s] w fun e w' => e = .returned (.tuple #[.int .u64 ((numP (bl s)).1 : Int), .int .i64 (numP (bl s)).2]) ∧ Below w.heap.size w w' := by
  have hp := fun w => prefix_c s ⟨#[48, 120]⟩ w
  rw [show bl ⟨#[48, 120]⟩ = [48, 120] from rfl, pre_hex, hx] at hp
  have HP := Lib.hid hp
  clear hp
  have hD : digitsOf (bl s) = bl s := by simp [digitsOf, hx]
  have hok : isHex (bl s) = true ∨ badZero (bl s) = false := .inr hz
  have HT : Hid (bl s = digitsOf (bl s)) := Lib.hid hD.symm
  have hL0 := h
  have hB0 := Below.refl w.heap.size w
  obtain ⟨W1, cap, hcv, hcell, hB⟩ := conv_bytes s w
  have hts := hs
  have hnz : ∀ h : 2 ≤ s.size, ¬ ((s[0].toNat : Int) = 48) := fun h e => by
    rw [badZero_iff, at_bl s 0 (by omega), bl_len] at hz
    have : s[0] = 48 := by apply UInt8.toNat_inj.1; show _ = 48; omega
    rw [this] at hz
    simp at hz; omega
  clear hz
  have HCELL := Lib.hid hcell
  have HX := Lib.hid hx
  have HOK := Lib.hid hok
  have hL1 := hL0.below hB
  have hB1 : Below w.heap.size w W1 := below_two hB0 hB
  clear hcell hx hok hD h hB0
  by_cases h2 : 2 ≤ s.size
  · have g0 := hnz h2
    have g0' : ((s[0].toNat : Int) == 48) = false := by rw [beq_eq_false_iff_ne]; exact g0
    have g2 : (1 : Int) < (s.size : Int) := by omega
    clear hnz g0
    go_enter Tryd.func16, Tryd.ntmps16
    go_wp2_with fail
    refine (HP.out _).mono ?_
    rintro e w' ⟨rfl, rfl⟩
    go_wp2
    clear hcv g0' g2
    go_loopw [26] (fun i wr => ∃ k v : Nat, k ≤ s.size ∧ i = .int .i64 k ∧ Below W1.heap.size W1 wr ∧ Hid (valFrom false 0 ((bl s).take k) = some v)) (fun i _ => s.size - (intOf i).toNat)
    case atStart => exact ⟨0, 0, by omega, rfl, Below.refl _ _, Lib.hid rfl⟩
    case round =>
      obtain ⟨k, v, hk, rfl, hwr, HK⟩ := hrel
      by_cases hlt : k < s.size
      · have hat := at_bl s k hlt
        have hc1 := HCELL.out k hlt
        have hc2 : wr.cell? ⟨w.heap.size, k, none⟩ = some (.int .u8 (s[k].toNat : Int)) := by
          rw [hwr.cell (p := ⟨w.heap.size, k, none⟩) (Lib.lt_of_cell hc1)]; exact hc1
        have hlt1 : (k : Int) < (s.size : Int) := by omega
        generalize hch : s[k] = ch at *
        have HCH := Lib.hid hch
        have hcb := ch.toNat_lt
        have hcb1 : (ch.toNat : Int) < 256 := by omega
        have hcb0 : (0 : Int) ≤ (ch.toNat : Int) := by omega
        have hw32 : IntKind.i32.wrap (ch.toNat : Int) = (ch.toNat : Int) := by simp [IntKind.wrap, IntKind.signed, IntKind.bits]; omega
        have hbad : digVal false ch = none → numP (bl s) = (0, 4) := fun hd => numP_bad (bl s) (by rw [HX.out, ← HT.out]; exact val_bad false _ k v ch hat HK.out hd)
        have hgood : digVal false ch ≠ none → ∃ v', valFrom false 0 ((bl s).take (k + 1)) = some v' := fun hd => by
          obtain ⟨d, hd⟩ := Option.ne_none_iff_exists'.1 hd
          exact ⟨_, val_snoc false _ k v d ch hat HK.out hd⟩
        have hsome := dig_dec ch
        have HBAD := Lib.hid hbad
        have HGOOD := Lib.hid hgood
        clear hbad hgood hat hc1 hch HCH hcb
        cases hd : isDig (ch.toNat : Int)
        · have hr := HBAD.out (by rw [hd] at hsome; simpa using hsome)
          have HR := Lib.hid hr
          clear hr hsome
          go_wp2_with (first | (go_at_call 31; refine (digit_any _ _).mono ?_; rintro e w' ⟨rfl, rfl⟩))
          go_ret2
          exact ⟨ret_two (v_int (by rw [HR.out]; try rfl)) (v_int (by rw [HR.out]; try rfl)), below_two hB1 hwr⟩
        · obtain ⟨v', hv'⟩ := HGOOD.out (by rw [hd] at hsome; intro hn; rw [hn] at hsome; cases hsome)
          have HV := Lib.hid hv'
          clear hv' hsome
          go_wp2_with (first | (go_at_call 31; refine (digit_any _ _).mono ?_; rintro e w' ⟨rfl, rfl⟩))
          exact ⟨⟨k + 1, v', by omega, by go_num, hwr, HV⟩, by simp [intOf]; omega⟩
      · have hke : k = s.size := by omega
        subst hke
        have hval : valFrom false 0 (bl s) = some v := by
          have h1 := HK.out
          rwa [List.take_of_length_le (by rw [bl_len]; exact Nat.le_refl _)] at h1
        have hBw : Below w.heap.size w wr := below_two hB1 hwr
        have hLw := hL1.below hwr
        clear HK
        by_cases h0 : s.size = 0
        · have e1 : s.toList = [] := by rw [toList_bl]; exact (bl_size0 s).2 h0
          have hr := numP_empty (bl s) (by rw [← HT.out]; exact (bl_size0 s).2 h0)
          have HR := Lib.hid hr
          have hz0 : ¬ (((s.size : Nat) : Int) < ((s.size : Nat) : Int)) := by omega
          clear hr hval hL1 hB hLw
          go_wp2
          go_ret2
          exact ⟨ret_two (v_int (by rw [HR.out]; try rfl)) (v_int (by rw [HR.out]; try rfl)), hBw⟩
        · have e1 : s.toList.isEmpty = false := by
            rw [toList_bl, List.isEmpty_eq_false_iff]; exact fun e => h0 ((bl_size0 s).1 e)
          have hr := numP_ok (bl s) v (by rw [HX.out, ← HT.out]; exact hval) HOK.out (by rw [← HT.out]; exact fun e => h0 ((bl_size0 s).1 e))
          by_cases hV : v < 18446744073709551616
          · rw [if_pos hV] at hr
            have HR := Lib.hid hr
            have HC := Lib.hid (spu10_ok s v wr hts h0 hval hV)
            clear hr hval hV
            go_wp2_with fail
            refine HC.out.mono ?_
            rintro e w4 ⟨rfl, hw4⟩
            have hBe := below_two hBw hw4
            clear hw4 hBw HC
            go_wp2
            go_ret2
            exact ⟨ret_two (v_int (by rw [HR.out])) (v_int (by rw [HR.out])), hBe⟩
          · rw [if_neg hV] at hr
            have HR := Lib.hid hr
            have HC := Lib.hid (spu10_range s v wr hLw hts h0 hval hV)
            clear hr hval hV
            go_wp2_with fail
            refine HC.out.mono ?_
            rintro e w4 ⟨⟨N, rfl⟩, hw4⟩
            have hBe := below_two hBw hw4
            clear hw4 hBw HC
            go_wp2
            go_ret2
            exact ⟨ret_two (v_int (by rw [HR.out]; try rfl)) (v_int (by rw [HR.out])), hBe⟩

  · have g2 : ¬ (1 : Int) < (s.size : Int) := by omega
    clear hnz
    go_enter Tryd.func16, Tryd.ntmps16
    go_wp2_with fail
    refine (HP.out _).mono ?_
    rintro e w' ⟨rfl, rfl⟩
    go_wp2
    clear hcv g2
    go_loopw [26] (fun i wr => ∃ k v : Nat, k ≤ s.size ∧ i = .int .i64 k ∧ Below W1.heap.size W1 wr ∧ Hid (valFrom false 0 ((bl s).take k) = some v)) (fun i _ => s.size - (intOf i).toNat)
    case atStart => exact ⟨0, 0, by omega, rfl, Below.refl _ _, Lib.hid rfl⟩
    case round =>
      obtain ⟨k, v, hk, rfl, hwr, HK⟩ := hrel
      by_cases hlt : k < s.size
      · have hat := at_bl s k hlt
        have hc1 := HCELL.out k hlt
        have hc2 : wr.cell? ⟨w.heap.size, k, none⟩ = some (.int .u8 (s[k].toNat : Int)) := by
          rw [hwr.cell (p := ⟨w.heap.size, k, none⟩) (Lib.lt_of_cell hc1)]; exact hc1
        have hlt1 : (k : Int) < (s.size : Int) := by omega
        generalize hch : s[k] = ch at *
        have HCH := Lib.hid hch
        have hcb := ch.toNat_lt
        have hcb1 : (ch.toNat : Int) < 256 := by omega
        have hcb0 : (0 : Int) ≤ (ch.toNat : Int) := by omega
        have hw32 : IntKind.i32.wrap (ch.toNat : Int) = (ch.toNat : Int) := by simp [IntKind.wrap, IntKind.signed, IntKind.bits]; omega
        have hbad : digVal false ch = none → numP (bl s) = (0, 4) := fun hd => numP_bad (bl s) (by rw [HX.out, ← HT.out]; exact val_bad false _ k v ch hat HK.out hd)
        have hgood : digVal false ch ≠ none → ∃ v', valFrom false 0 ((bl s).take (k + 1)) = some v' := fun hd => by
          obtain ⟨d, hd⟩ := Option.ne_none_iff_exists'.1 hd
          exact ⟨_, val_snoc false _ k v d ch hat HK.out hd⟩
        have hsome := dig_dec ch
        have HBAD := Lib.hid hbad
        have HGOOD := Lib.hid hgood
        clear hbad hgood hat hc1 hch HCH hcb
        cases hd : isDig (ch.toNat : Int)
        · have hr := HBAD.out (by rw [hd] at hsome; simpa using hsome)
          have HR := Lib.hid hr
          clear hr hsome
          go_wp2_with (first | (go_at_call 31; refine (digit_any _ _).mono ?_; rintro e w' ⟨rfl, rfl⟩))
          go_ret2
          exact ⟨ret_two (v_int (by rw [HR.out]; try rfl)) (v_int (by rw [HR.out]; try rfl)), below_two hB1 hwr⟩
        · obtain ⟨v', hv'⟩ := HGOOD.out (by rw [hd] at hsome; intro hn; rw [hn] at hsome; cases hsome)
          have HV := Lib.hid hv'
          clear hv' hsome
          go_wp2_with (first | (go_at_call 31; refine (digit_any _ _).mono ?_; rintro e w' ⟨rfl, rfl⟩))
          exact ⟨⟨k + 1, v', by omega, by go_num, hwr, HV⟩, by simp [intOf]; omega⟩
      · have hke : k = s.size := by omega
        subst hke
        have hval : valFrom false 0 (bl s) = some v := by
          have h1 := HK.out
          rwa [List.take_of_length_le (by rw [bl_len]; exact Nat.le_refl _)] at h1
        have hBw : Below w.heap.size w wr := below_two hB1 hwr
        have hLw := hL1.below hwr
        clear HK
        by_cases h0 : s.size = 0
        · have e1 : s.toList = [] := by rw [toList_bl]; exact (bl_size0 s).2 h0
          have hr := numP_empty (bl s) (by rw [← HT.out]; exact (bl_size0 s).2 h0)
          have HR := Lib.hid hr
          have hz0 : ¬ (((s.size : Nat) : Int) < ((s.size : Nat) : Int)) := by omega
          clear hr hval hL1 hB hLw
          go_wp2
          go_ret2
          exact ⟨ret_two (v_int (by rw [HR.out]; try rfl)) (v_int (by rw [HR.out]; try rfl)), hBw⟩
        · have e1 : s.toList.isEmpty = false := by
            rw [toList_bl, List.isEmpty_eq_false_iff]; exact fun e => h0 ((bl_size0 s).1 e)
          have hr := numP_ok (bl s) v (by rw [HX.out, ← HT.out]; exact hval) HOK.out (by rw [← HT.out]; exact fun e => h0 ((bl_size0 s).1 e))
          by_cases hV : v < 18446744073709551616
          · rw [if_pos hV] at hr
            have HR := Lib.hid hr
            have HC := Lib.hid (spu10_ok s v wr hts h0 hval hV)
            clear hr hval hV
            go_wp2_with fail
            refine HC.out.mono ?_
            rintro e w4 ⟨rfl, hw4⟩
            have hBe := below_two hBw hw4
            clear hw4 hBw HC
            go_wp2
            go_ret2
            exact ⟨ret_two (v_int (by rw [HR.out])) (v_int (by rw [HR.out])), hBe⟩
          · rw [if_neg hV] at hr
            have HR := Lib.hid hr
            have HC := Lib.hid (spu10_range s v wr hLw hts h0 hval hV)
            clear hr hval hV
            go_wp2_with fail
            refine HC.out.mono ?_
            rintro e w4 ⟨⟨N, rfl⟩, hw4⟩
            have hBe := below_two hBw hw4
            clear hw4 hBw HC
            go_wp2
            go_ret2
            exact ⟨ret_two (v_int (by rw [HR.out]; try rfl)) (v_int (by rw [HR.out])), hBe⟩

set_option maxRecDepth 100000 in
set_option maxHeartbeats 1000000 in
theorem num_hex (s : ByteArray) (w : World) (h : Laid w) (hs : s.size ≤ 1073741824) (hx : isHex (bl s) = true) : Calls Tryd.prog 16 #[.string s] w fun e w' => e = .returned (.tuple #[.int .u64 ((numP (bl s)).1 : Int), .int .i64 (numP (bl s)).2]) ∧ Below w.heap.size w w' := by
  have hp := fun w => prefix_c s ⟨#[48, 120]⟩ w
  rw [show bl ⟨#[48, 120]⟩ = [48, 120] from rfl, pre_hex, hx] at hp
  have HP := Lib.hid hp
  clear hp
  have h2 : 2 ≤ s.size := by
    rw [isHex_iff] at hx; simp at hx; rw [bl_len] at hx; exact hx.1.1
  have g2 : (2 : Int) ≤ (s.size : Int) := by omega
  have hD : digitsOf (bl s) = (bl s).drop 2 := by simp [digitsOf, hx]
  have hok : isHex (bl s) = true ∨ badZero (bl s) = false := .inl hx
  have hbt : bl (s.extract 2 s.size) = digitsOf (bl s) := by rw [bl_from, hD]
  go_enter Tryd.func16, Tryd.ntmps16
  go_wp2_with fail
  refine (HP.out _).mono ?_
  rintro e w' ⟨rfl, rfl⟩
  go_wp2_with fail
  go_quiet (fail)
  have hB0 := below_dn (Below.refl w.heap.size w) nq
  have hL0 := h.below hB0
  generalize w.drewN nq = w0 at *
  have hts : (s.extract 2 s.size).size ≤ 1073741824 := by rw [size_from]; omega
  generalize s.extract 2 s.size = t at *
  obtain ⟨W1, cap, hcv, hcell, hB⟩ := conv_bytes t w0
  have HT := Lib.hid hbt
  clear hbt g2
  have HCELL := Lib.hid hcell
  have HX := Lib.hid hx
  have HOK := Lib.hid hok
  have hL1 := hL0.below hB
  have hB1 : Below w.heap.size w W1 := below_two hB0 hB
  clear hcell hx hok hD h hB0
  go_wp2
  clear hcv
  go_loopw [26] (fun i wr => ∃ k v : Nat, k ≤ t.size ∧ i = .int .i64 k ∧ Below W1.heap.size W1 wr ∧ Hid (valFrom true 0 ((bl t).take k) = some v)) (fun i _ => t.size - (intOf i).toNat)
  case atStart => exact ⟨0, 0, by omega, rfl, Below.refl _ _, Lib.hid rfl⟩
  case round =>
    obtain ⟨k, v, hk, rfl, hwr, HK⟩ := hrel
    by_cases hlt : k < t.size
    · have hat := at_bl t k hlt
      have hc1 := HCELL.out k hlt
      have hc2 : wr.cell? ⟨w0.heap.size, k, none⟩ = some (.int .u8 (t[k].toNat : Int)) := by
        rw [hwr.cell (p := ⟨w0.heap.size, k, none⟩) (Lib.lt_of_cell hc1)]; exact hc1
      have hlt1 : (k : Int) < (t.size : Int) := by omega
      generalize hch : t[k] = ch at *
      have HCH := Lib.hid hch
      have hcb := ch.toNat_lt
      have hcb1 : (ch.toNat : Int) < 256 := by omega
      have hcb0 : (0 : Int) ≤ (ch.toNat : Int) := by omega
      have hw32 : IntKind.i32.wrap (ch.toNat : Int) = (ch.toNat : Int) := by simp [IntKind.wrap, IntKind.signed, IntKind.bits]; omega
      have hbad : digVal true ch = none → numP (bl s) = (0, 4) := fun hd => numP_bad (bl s) (by rw [HX.out, ← HT.out]; exact val_bad true _ k v ch hat HK.out hd)
      have hgood : digVal true ch ≠ none → ∃ v', valFrom true 0 ((bl t).take (k + 1)) = some v' := fun hd => by
        obtain ⟨d, hd⟩ := Option.ne_none_iff_exists'.1 hd
        exact ⟨_, val_snoc true _ k v d ch hat HK.out hd⟩
      have hsome := dig_hex ch
      have HBAD := Lib.hid hbad
      have HGOOD := Lib.hid hgood
      clear hbad hgood hat hc1 hch HCH hcb
      cases hd : isDig (ch.toNat : Int)
      · have hcr := hexrune_c ch wr
        cases hl : isHexL ch
        · have hr := HBAD.out (by rw [hd, hl] at hsome; simpa using hsome)
          have HR := Lib.hid hr
          rw [hl] at hcr
          have HCR := Lib.hid hcr
          clear hr hsome hcr hl
          go_wp2_with (first | (go_at_call 31; refine (digit_any _ _).mono ?_; rintro e w' ⟨rfl, rfl⟩) | (go_at_call 32; refine HCR.out.mono ?_; rintro e w3 ⟨rfl, hw3⟩))
          go_ret2
          exact ⟨ret_two (v_int (by rw [HR.out]; try rfl)) (v_int (by rw [HR.out]; try rfl)), below_two (below_two hB1 hwr) hw3⟩
        · obtain ⟨v', hv'⟩ := HGOOD.out (by rw [hd, hl] at hsome; intro hn; rw [hn] at hsome; cases hsome)
          have HV := Lib.hid hv'
          rw [hl] at hcr
          have HCR := Lib.hid hcr
          clear hv' hsome hcr hl
          go_wp2_with (first | (go_at_call 31; refine (digit_any _ _).mono ?_; rintro e w' ⟨rfl, rfl⟩) | (go_at_call 32; refine HCR.out.mono ?_; rintro e w3 ⟨rfl, hw3⟩))
          exact ⟨⟨k + 1, v', by omega, by go_num, below_two hwr hw3, HV⟩, by simp [intOf]; omega⟩
      · obtain ⟨v', hv'⟩ := HGOOD.out (by rw [hd] at hsome; intro hn; rw [hn] at hsome; cases hsome)
        have HV := Lib.hid hv'
        clear hv' hsome
        go_wp2_with (first | (go_at_call 31; refine (digit_any _ _).mono ?_; rintro e w' ⟨rfl, rfl⟩))
        exact ⟨⟨k + 1, v', by omega, by go_num, hwr, HV⟩, by simp [intOf]; omega⟩
    · have hke : k = t.size := by omega
      subst hke
      have hval : valFrom true 0 (bl t) = some v := by
        have h1 := HK.out
        rwa [List.take_of_length_le (by rw [bl_len]; exact Nat.le_refl _)] at h1
      have hBw : Below w.heap.size w wr := below_two hB1 hwr
      have hLw := hL1.below hwr
      clear HK
      by_cases h0 : t.size = 0
      · have e1 : t.toList = [] := by rw [toList_bl]; exact (bl_size0 t).2 h0
        have hr := numP_empty (bl s) (by rw [← HT.out]; exact (bl_size0 t).2 h0)
        have HR := Lib.hid hr
        have hz0 : ¬ (((t.size : Nat) : Int) < ((t.size : Nat) : Int)) := by omega
        clear hr hval hL1 hB hLw
        go_wp2
        go_ret2
        exact ⟨ret_two (v_int (by rw [HR.out]; try rfl)) (v_int (by rw [HR.out]; try rfl)), hBw⟩
      · have e1 : t.toList.isEmpty = false := by
          rw [toList_bl, List.isEmpty_eq_false_iff]; exact fun e => h0 ((bl_size0 t).1 e)
        have hr := numP_ok (bl s) v (by rw [HX.out, ← HT.out]; exact hval) HOK.out (by rw [← HT.out]; exact fun e => h0 ((bl_size0 t).1 e))
        by_cases hV : v < 18446744073709551616
        · rw [if_pos hV] at hr
          have HR := Lib.hid hr
          have HC := Lib.hid (spu16_ok t v wr hts h0 hval hV)
          clear hr hval hV
          go_wp2_with fail
          refine HC.out.mono ?_
          rintro e w4 ⟨rfl, hw4⟩
          have hBe := below_two hBw hw4
          clear hw4 hBw HC
          go_wp2
          go_ret2
          exact ⟨ret_two (v_int (by rw [HR.out])) (v_int (by rw [HR.out])), hBe⟩
        · rw [if_neg hV] at hr
          have HR := Lib.hid hr
          have HC := Lib.hid (spu16_range t v wr hLw hts h0 hval hV)
          clear hr hval hV
          go_wp2_with fail
          refine HC.out.mono ?_
          rintro e w4 ⟨⟨N, rfl⟩, hw4⟩
          have hBe := below_two hBw hw4
          clear hw4 hBw HC
          go_wp2
          go_ret2
          exact ⟨ret_two (v_int (by rw [HR.out]; try rfl)) (v_int (by rw [HR.out])), hBe⟩

theorem num_zero (s : ByteArray) (w : World) (hz : badZero (bl s) = true) (hx : isHex (bl s) = false) : Calls Tryd.prog 16 #[.string s] w fun e w' => e = .returned (.tuple #[.int .u64 ((numP (bl s)).1 : Int), .int .i64 (numP (bl s)).2]) ∧ w = w' := by
  have hp := fun w => prefix_c s ⟨#[48, 120]⟩ w
  rw [show bl ⟨#[48, 120]⟩ = [48, 120] from rfl, pre_hex, hx] at hp
  have HP := Lib.hid hp
  have hr := numP_zero (bl s) hx hz
  rw [hr]
  have h2 : 2 ≤ s.size := by rw [badZero_iff] at hz; simp at hz; rw [bl_len] at hz; exact hz.1
  have h0 : s[0] = 48 := by
    rw [badZero_iff, at_bl s 0 (by omega)] at hz; simp at hz; exact hz.2
  have g0 : ((s[0].toNat : Int) == 48) = true := by rw [h0]; rfl
  have g2 : (1 : Int) < (s.size : Int) := by omega
  clear hp hr hz hx h0
  go_enter Tryd.func16, Tryd.ntmps16
  go_wp2_with fail
  refine (HP.out _).mono ?_
  rintro e w' ⟨rfl, rfl⟩
  go_wp2
  go_ret2
  exact ⟨rfl, rfl⟩
theorem number_c (s : ByteArray) (w : World) (h : Laid w) (hs : s.size ≤ 1073741824) : Calls Tryd.prog 16 #[.string s] w fun e w' => e = .returned (.tuple #[.int .u64 ((numP (bl s)).1 : Int), .int .i64 (numP (bl s)).2]) ∧ Below w.heap.size w w' := by
  cases hx : isHex (bl s)
  · cases hz : badZero (bl s)
    · exact num_dec s w h hs hz hx
    · exact (num_zero s w hz hx).mono fun _ _ ⟨h1, h2⟩ => ⟨h1, h2 ▸ Below.refl _ _⟩
  · exact num_hex s w h hs hx
end Go.Proofs.YtihdjofihdgigaaDoor
